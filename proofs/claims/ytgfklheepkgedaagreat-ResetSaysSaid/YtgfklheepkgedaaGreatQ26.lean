/- Contracts of the program's functions and plain laws, part 26: they hold for all arguments. -/
import Derived.Test.YtgfklheepkgedaaGreatQ25
/- The walk of ResetSays (printed by wip/gen_says26.py). -/
namespace Go.Proofs.YtgfklheepkgedaaGreat
open Go.RowKit
open Go
set_option maxRecDepth 100000
set_option maxHeartbeats 64000000 in
theorem says26_walk (S P T : Nat → Int) (angle v : Int) (w : World) :
  Calls Tryz.prog 3 #[.agg (arrv 24 S), .agg (arrv 300 P), .agg (arrv 3 T), .int .i64 angle, .int .i64 v] w fun e w' => e = .returned (.bool true) ∧ Below w.heap.size w w' := by
 have L0 := Lib.hid (show BsR [⟨w.heap.size, 23, 24, S⟩, ⟨w.heap.size + 1, 26, 300, P⟩, ⟨w.heap.size + 1 + 1, 28, 3, T⟩] (w.heap.size + 1 + 1 + 1) w (((w.alloc (.cells (arrv 24 S) 23)).alloc (.cells (arrv 300 P) 26)).alloc (.cells (arrv 3 T) 28)) by
  have := (((bs_nil w).lay 23 24 S).lay 26 300 P).lay 28 3 T
  simp at this
  exact this.sub (by simp))
 go_enter Tryz.func3, Tryz.ntmps3
 go_upto_region 1 with fail
 generalize ((w.alloc (.cells (arrv 24 S) 23)).alloc (.cells (arrv 300 P) 26)).alloc (.cells (arrv 3 T) 28) = W0 at *
 go_upto_region 3 with (go_at_call 5; (refine (awake26_any _).mono ?_); rintro e w1 ⟨rfl, hb1⟩; have L1 := Lib.hid (L0.out.down hb1); clear hb1 L0)
 go_wp2_with fail
 go_loopw [11] (fun i wr => ∃ k : Nat, k ≤ 4 ∧ i = .int .i64 k ∧ Hid (BsR [⟨w.heap.size, 23, 24, S⟩, ⟨w.heap.size + 1, 26, 300, P⟩, ⟨w.heap.size + 1 + 1, 28, 3, T⟩] (w.heap.size + 1 + 1 + 1) w wr)) (fun i _ => 4 - (intOf i).toNat)
 case atStart => exact ⟨0, by omega, rfl, L1⟩
 case round =>
  obtain ⟨k, hk, rfl, R⟩ := hrel
  clear L1
  by_cases hlt : k < 4
  ·have d1 : decide ((k : Int) < 4) = true := by simp; omega
   have k0 : (0 : Int) ≤ (k : Int) := Int.natCast_nonneg _
   have k1 : (k : Int) < 4 := by omega
   have hk4 : k = 0 ∨ k = 1 ∨ k = 2 ∨ k = 3 := by omega
   go_upto_region 8 with fail
   obtain ⟨W1, hW1⟩ : ∃ x, (wr.alloc (.cells #[.bool false] 32)).alloc (.cells #[.bool false] 36) = x := ⟨_, rfl⟩
   rw [hW1]
   have HW := Lib.hid hW1
   clear hW1
   have B0 := Lib.hid (bs_nil W1)
   refine wp_region_lit ?_
   refine wpList_val (v := ?_) rfl ?_ ?_
   rotate_left
   ·(refine Eq.trans (run_build_zz24 (by rfl)) ?_; with_reducible rfl)
   (try simp only [Act.put, nA, nB, nC])
   refine wpList_act (v := ?_) (w' := ?_) rfl ?_ ?_
   rotate_left 2
   ·(go_simp; (try (first | with_reducible rfl | (constructor <;> with_reducible rfl))))
   (try simp only [Act.put, nA, nB, nC])
   refine wpList_done (w' := ?_) rfl ?_ ?_
   rotate_left
   ·(refine Eq.trans (run_store_row 23 (.tmp 14) (.tmp 30) (by rfl) (W1.heap.size) (by rfl) (by rfl) (show Blk (W1.alloc (.cells #[.int .i64 0, .int .i64 0, .int .i64 0, .int .i64 0, .int .i64 0, .int .i64 0, .int .i64 0, .int .i64 0, .int .i64 0, .int .i64 0, .int .i64 0, .int .i64 0, .int .i64 0, .int .i64 0, .int .i64 0, .int .i64 0, .int .i64 0, .int .i64 0, .int .i64 0, .int .i64 0, .int .i64 0, .int .i64 0, .int .i64 0, .int .i64 0] 23)) W1.heap.size 23 24 (fun _ => 0) by rw [zvec24]; exact Blk.new _ _ _ _) (ist.trans rfl)) ?_; with_reducible rfl)
   (try simp only [Act.put, nA, nB, nC])
   refine wpList_nil ?_
   have B1 := Lib.hid (B0.out.putz 23 24 #[.int .i64 0, .int .i64 0, .int .i64 0, .int .i64 0, .int .i64 0, .int .i64 0, .int .i64 0, .int .i64 0, .int .i64 0, .int .i64 0, .int .i64 0, .int .i64 0, .int .i64 0, .int .i64 0, .int .i64 0, .int .i64 0, .int .i64 0, .int .i64 0, .int .i64 0, .int .i64 0, .int .i64 0, .int .i64 0, .int .i64 0, .int .i64 0] zvec24)
   clear B0
   obtain ⟨ab, hab⟩ : ∃ x, W1.heap.size = x := ⟨_, rfl⟩
   rw [hab] at B1 ⊢
   generalize (W1.alloc (.cells #[.int .i64 0, .int .i64 0, .int .i64 0, .int .i64 0, .int .i64 0, .int .i64 0, .int .i64 0, .int .i64 0, .int .i64 0, .int .i64 0, .int .i64 0, .int .i64 0, .int .i64 0, .int .i64 0, .int .i64 0, .int .i64 0, .int .i64 0, .int .i64 0, .int .i64 0, .int .i64 0, .int .i64 0, .int .i64 0, .int .i64 0, .int .i64 0] 23)).setRow ab (arrv 24 (fun _ => 0)) = V1 at *
   have oab := B1.out.le
   go_upto_region 9 with fail
   refine wp_region_lit ?_
   refine wpList_val (v := ?_) rfl ?_ ?_
   rotate_left
   ·(refine Eq.trans (run_build_zz24 (by rfl)) ?_; with_reducible rfl)
   (try simp only [Act.put, nA, nB, nC])
   refine wpList_act (v := ?_) (w' := ?_) rfl ?_ ?_
   rotate_left 2
   ·(go_simp; (try (first | with_reducible rfl | (constructor <;> with_reducible rfl))))
   (try simp only [Act.put, nA, nB, nC])
   refine wpList_done (w' := ?_) rfl ?_ ?_
   rotate_left
   ·(refine Eq.trans (run_store_row 23 (.tmp 15) (.tmp 31) (by rfl) (V1.heap.size) (by rfl) (by rfl) (show Blk (V1.alloc (.cells #[.int .i64 0, .int .i64 0, .int .i64 0, .int .i64 0, .int .i64 0, .int .i64 0, .int .i64 0, .int .i64 0, .int .i64 0, .int .i64 0, .int .i64 0, .int .i64 0, .int .i64 0, .int .i64 0, .int .i64 0, .int .i64 0, .int .i64 0, .int .i64 0, .int .i64 0, .int .i64 0, .int .i64 0, .int .i64 0, .int .i64 0, .int .i64 0] 23)) V1.heap.size 23 24 (fun _ => 0) by rw [zvec24]; exact Blk.new _ _ _ _) (ist.trans rfl)) ?_; with_reducible rfl)
   (try simp only [Act.put, nA, nB, nC])
   refine wpList_nil ?_
   have B2 := Lib.hid (B1.out.putz 23 24 #[.int .i64 0, .int .i64 0, .int .i64 0, .int .i64 0, .int .i64 0, .int .i64 0, .int .i64 0, .int .i64 0, .int .i64 0, .int .i64 0, .int .i64 0, .int .i64 0, .int .i64 0, .int .i64 0, .int .i64 0, .int .i64 0, .int .i64 0, .int .i64 0, .int .i64 0, .int .i64 0, .int .i64 0, .int .i64 0, .int .i64 0, .int .i64 0] zvec24)
   clear B1
   obtain ⟨bb, hbb⟩ : ∃ x, V1.heap.size = x := ⟨_, rfl⟩
   rw [hbb] at B2 ⊢
   generalize (V1.alloc (.cells #[.int .i64 0, .int .i64 0, .int .i64 0, .int .i64 0, .int .i64 0, .int .i64 0, .int .i64 0, .int .i64 0, .int .i64 0, .int .i64 0, .int .i64 0, .int .i64 0, .int .i64 0, .int .i64 0, .int .i64 0, .int .i64 0, .int .i64 0, .int .i64 0, .int .i64 0, .int .i64 0, .int .i64 0, .int .i64 0, .int .i64 0, .int .i64 0] 23)).setRow bb (arrv 24 (fun _ => 0)) = V2 at *
   have obb := B2.out.le
   go_upto_region 10 with fail
   refine wp_region_lit ?_
   refine wpList_val (v := ?_) rfl ?_ ?_
   rotate_left
   ·(refine Eq.trans (run_build_zz300 (by rfl)) ?_; with_reducible rfl)
   (try simp only [Act.put, nA, nB, nC])
   refine wpList_act (v := ?_) (w' := ?_) rfl ?_ ?_
   rotate_left 2
   ·(go_simp; (try (first | with_reducible rfl | (constructor <;> with_reducible rfl))))
   (try simp only [Act.put, nA, nB, nC])
   refine wpList_done (w' := ?_) rfl ?_ ?_
   rotate_left
   ·(refine Eq.trans (run_store_row 26 (.tmp 16) (.tmp 32) (by rfl) (V2.heap.size) (by rfl) (by rfl) (show Blk (V2.alloc (.cells Tryz.zeroCells26 26)) V2.heap.size 26 300 (fun _ => 0) by rw [zcov]; exact Blk.new _ _ _ _) (icov.trans rfl)) ?_; with_reducible rfl)
   (try simp only [Act.put, nA, nB, nC])
   refine wpList_nil ?_
   have B3 := Lib.hid (B2.out.putz 26 300 Tryz.zeroCells26 zcov)
   clear B2
   obtain ⟨xb, hxb⟩ : ∃ x, V2.heap.size = x := ⟨_, rfl⟩
   rw [hxb] at B3 ⊢
   generalize (V2.alloc (.cells Tryz.zeroCells26 26)).setRow xb (arrv 300 (fun _ => 0)) = V3 at *
   have oxb := B3.out.le
   go_upto_region 11 with fail
   refine wp_region_lit ?_
   refine wpList_val (v := ?_) rfl ?_ ?_
   rotate_left
   ·(refine Eq.trans (run_build_zz300 (by rfl)) ?_; with_reducible rfl)
   (try simp only [Act.put, nA, nB, nC])
   refine wpList_act (v := ?_) (w' := ?_) rfl ?_ ?_
   rotate_left 2
   ·(go_simp; (try (first | with_reducible rfl | (constructor <;> with_reducible rfl))))
   (try simp only [Act.put, nA, nB, nC])
   refine wpList_done (w' := ?_) rfl ?_ ?_
   rotate_left
   ·(refine Eq.trans (run_store_row 26 (.tmp 17) (.tmp 33) (by rfl) (V3.heap.size) (by rfl) (by rfl) (show Blk (V3.alloc (.cells Tryz.zeroCells26 26)) V3.heap.size 26 300 (fun _ => 0) by rw [zcov]; exact Blk.new _ _ _ _) (icov.trans rfl)) ?_; with_reducible rfl)
   (try simp only [Act.put, nA, nB, nC])
   refine wpList_nil ?_
   have B4 := Lib.hid (B3.out.putz 26 300 Tryz.zeroCells26 zcov)
   clear B3
   obtain ⟨yb, hyb⟩ : ∃ x, V3.heap.size = x := ⟨_, rfl⟩
   rw [hyb] at B4 ⊢
   generalize (V3.alloc (.cells Tryz.zeroCells26 26)).setRow yb (arrv 300 (fun _ => 0)) = V4 at *
   have oyb := B4.out.le
   go_upto_region 12 with fail
   refine wp_region_lit ?_
   refine wpList_val (v := ?_) rfl ?_ ?_
   rotate_left
   ·(refine Eq.trans (run_build_zz11 (by rfl)) ?_; with_reducible rfl)
   (try simp only [Act.put, nA, nB, nC])
   refine wpList_act (v := ?_) (w' := ?_) rfl ?_ ?_
   rotate_left 2
   ·(go_simp; (try (first | with_reducible rfl | (constructor <;> with_reducible rfl))))
   (try simp only [Act.put, nA, nB, nC])
   refine wpList_done (w' := ?_) rfl ?_ ?_
   rotate_left
   ·(refine Eq.trans (run_store_row 42 (.tmp 18) (.tmp 34) (by rfl) (V4.heap.size) (by rfl) (by rfl) (show Blk (V4.alloc (.cells #[.int .i64 0, .int .i64 0, .int .i64 0, .int .i64 0, .int .i64 0, .int .i64 0, .int .i64 0, .int .i64 0, .int .i64 0, .int .i64 0, .int .i64 0] 42)) V4.heap.size 42 11 (fun _ => 0) by rw [ztd]; exact Blk.new _ _ _ _) (itd.trans rfl)) ?_; with_reducible rfl)
   (try simp only [Act.put, nA, nB, nC])
   refine wpList_nil ?_
   have B5 := Lib.hid (B4.out.putz 42 11 #[.int .i64 0, .int .i64 0, .int .i64 0, .int .i64 0, .int .i64 0, .int .i64 0, .int .i64 0, .int .i64 0, .int .i64 0, .int .i64 0, .int .i64 0] ztd)
   clear B4
   obtain ⟨db, hdb⟩ : ∃ x, V4.heap.size = x := ⟨_, rfl⟩
   rw [hdb] at B5 ⊢
   generalize (V4.alloc (.cells #[.int .i64 0, .int .i64 0, .int .i64 0, .int .i64 0, .int .i64 0, .int .i64 0, .int .i64 0, .int .i64 0, .int .i64 0, .int .i64 0, .int .i64 0] 42)).setRow db (arrv 11 (fun _ => 0)) = V5 at *
   have odb := B5.out.le
   go_upto_region 13 with fail
   refine wp_region_lit ?_
   refine wpList_val (v := ?_) rfl ?_ ?_
   rotate_left
   ·(refine Eq.trans (run_build_zz10 (by rfl)) ?_; with_reducible rfl)
   (try simp only [Act.put, nA, nB, nC])
   refine wpList_act (v := ?_) (w' := ?_) rfl ?_ ?_
   rotate_left 2
   ·(go_simp; (try (first | with_reducible rfl | (constructor <;> with_reducible rfl))))
   (try simp only [Act.put, nA, nB, nC])
   refine wpList_done (w' := ?_) rfl ?_ ?_
   rotate_left
   ·(refine Eq.trans (run_store_row 46 (.tmp 19) (.tmp 35) (by rfl) (V5.heap.size) (by rfl) (by rfl) (show Blk (V5.alloc (.cells #[.int .i64 0, .int .i64 0, .int .i64 0, .int .i64 0, .int .i64 0, .int .i64 0, .int .i64 0, .int .i64 0, .int .i64 0, .int .i64 0] 46)) V5.heap.size 46 10 (fun _ => 0) by rw [zdv]; exact Blk.new _ _ _ _) (irdl.trans rfl)) ?_; with_reducible rfl)
   (try simp only [Act.put, nA, nB, nC])
   refine wpList_nil ?_
   have B6 := Lib.hid (B5.out.putz 46 10 #[.int .i64 0, .int .i64 0, .int .i64 0, .int .i64 0, .int .i64 0, .int .i64 0, .int .i64 0, .int .i64 0, .int .i64 0, .int .i64 0] zdv)
   clear B5
   obtain ⟨eb, heb⟩ : ∃ x, V5.heap.size = x := ⟨_, rfl⟩
   rw [heb] at B6 ⊢
   generalize (V5.alloc (.cells #[.int .i64 0, .int .i64 0, .int .i64 0, .int .i64 0, .int .i64 0, .int .i64 0, .int .i64 0, .int .i64 0, .int .i64 0, .int .i64 0] 46)).setRow eb (arrv 10 (fun _ => 0)) = V6 at *
   have oeb := B6.out.le
   have HS := Lib.hid (rvs_mk R.out HW.out B6.out (by omega))
   obtain ⟨bc, hbc⟩ : ∃ x, wr.heap.size = x := ⟨_, rfl⟩
   rw [hbc] at HS ⊢
   obtain ⟨rc, hrc⟩ : ∃ x, bc + 1 = x := ⟨_, rfl⟩
   rw [hrc] at HS ⊢
   clear hbc hrc R HW B6 hab hbb hxb hyb hdb heb oab obb oxb oyb odb oeb
   clear d1 k0 k1 hk hlt
   rcases hk4 with rfl | rfl | rfl | rfl
   ·rw [show ((0 : Nat) : Int) = 0 from rfl]
    have CO0 := fun (x : World) h1 h2 => yaw_any ⟨bc, 0, none⟩ false S P angle v x h1 h2
    have CR0 := fun (x : World) h1 h2 => ryaw_any ⟨rc, 0, none⟩ false S P angle v x h1 h2
    obtain ⟨AV, hA⟩ : ∃ x, ywS S angle = x := ⟨_, rfl⟩
    obtain ⟨XV, hX⟩ : ∃ x, stepF P (rtF 0 4) (rtQ 0 (fun _ => v) 4) = x := ⟨_, rfl⟩
    obtain ⟨H, hH⟩ : ∃ x, (ywH false S angle || orB (rtB 0 (fun _ => v)) 4 || stepH P (rtF 0 4) (rtQ 0 (fun _ => v) 4)) = x := ⟨_, rfl⟩
    obtain ⟨DV, hD⟩ : ∃ x, ywT angle = x := ⟨_, rfl⟩
    obtain ⟨EV, hE⟩ : ∃ x, putF dl0 0 4 (fyV angle) = x := ⟨_, rfl⟩
    simp only [hA, hX, hH, hD] at CO0
    simp only [hA, hX, hH, hE] at CR0
    have CO := Lib.hid CO0
    have CR := Lib.hid CR0
    clear CO0 CR0
    have E10 := Lib.hid (show arrv 10 (fun i => DV (0 + i)) = arrv 10 EV by rw [← hD, ← hE]; exact put_E 1 (fyV angle))
    have EK := Lib.hid (show DV 10 = 1 by rw [← hD]; exact put_K 1 (fyV angle))
    clear hA hX hH hD hE
    go_upto_region 18 with fail
    have P0 := HS.out.s
    have P1 := HS.out.p
    refine wp_region_lit ?_
    refine tv ?_
    (try simp only [Act.put, nA, nB, nC])
    refine wpList_val (v := ?_) rfl ?_ ?_
    rotate_left
    ·refine Eq.trans (run_load_row 23 (.tmp 5) (by rfl) (w.heap.size) (by rfl) _ _ _ _ (P0) Tryz.underlying23 rfl (ist.trans (by rw [arrv_size]))) ?_; with_reducible rfl
    (try simp only [Act.put, nA, nB, nC])
    refine wpList_val (v := ?_) rfl ?_ ?_
    rotate_left
    ·refine Eq.trans (run_load_row 26 (.tmp 6) (by rfl) (w.heap.size + 1) (by rfl) _ _ _ _ (P1) Tryz.underlying26 rfl (icov.trans (by rw [arrv_size]))) ?_; with_reducible rfl
    (try simp only [Act.put, nA, nB, nC])
    refine tv ?_
    (try simp only [Act.put, nA, nB, nC])
    refine tv ?_
    (try simp only [Act.put, nA, nB, nC])
    refine wpList_step (fun K hK => ?_)
    go_simp
    clear P0 P1; (refine (CO.out _ HS.out.c1 HS.out.f1).mono ?_); rintro e w2 ⟨rfl, hu⟩; have HS2 := Lib.hid (HS.out.updB hu); clear HS hu; have HS := HS2; clear HS2; have Q0 := HS.out.a; have Q1 := (show Blk (w2.setRow ab (arrv 24 AV)) xb 26 300 _ from HS.out.x.setRow_other _ (by have := HS.out.o; omega)); have Q2 := (show Blk ((w2.setRow ab (arrv 24 AV)).setRow xb (arrv 300 XV)) db 42 11 _ from (HS.out.d.setRow_other _ (by have := HS.out.o; omega)).setRow_other _ (by have := HS.out.o; omega))
    (try dsimp only)
    (try simp only [Act.put, nA, nB, nC])
    refine hK _ _ ?_
    clear hK K
    refine tv ?_
    (try simp only [Act.put, nA, nB, nC])
    refine tv ?_
    (try simp only [Act.put, nA, nB, nC])
    refine tv ?_
    (try simp only [Act.put, nA, nB, nC])
    refine tv ?_
    (try simp only [Act.put, nA, nB, nC])
    refine wpList_done (w' := ?_) rfl ?_ ?_
    rotate_left
    ·refine Eq.trans (run_store_row 23 (.tmp 14) (.tmp 68) (by rfl) (ab) (by rfl) (by rfl) (Q0) (ist.trans rfl)) ?_; with_reducible rfl
    (try simp only [Act.put, nA, nB, nC])
    refine wpList_done (w' := ?_) rfl ?_ ?_
    rotate_left
    ·(refine Eq.trans (run_store_row 26 (.tmp 16) (.tmp 69) (by rfl) xb (by rfl) (by rfl) Q1 (icov.trans rfl)) ?_; with_reducible rfl)
    (try simp only [Act.put, nA, nB, nC])
    refine wpList_done (w' := ?_) rfl ?_ ?_
    rotate_left
    ·(refine Eq.trans (run_store_row 42 (.tmp 18) (.tmp 70) (by rfl) db (by rfl) (by rfl) Q2 (itd.trans rfl)) ?_; with_reducible rfl)
    (try simp only [Act.put, nA, nB, nC])
    refine wpList_nil ?_
    have HS2 := Lib.hid (((HS.out.set_a AV).set_x XV).set_d DV)
    clear HS Q0 Q1 Q2
    have HS := HS2
    clear HS2
    generalize ((w2.setRow ab (arrv 24 AV)).setRow xb (arrv 300 XV)).setRow db (arrv 11 DV) = W2 at *
    go_upto_region 19 with fail
    have P0 := HS.out.s
    have P1 := HS.out.p
    refine wp_region_lit ?_
    refine tv ?_
    (try simp only [Act.put, nA, nB, nC])
    refine wpList_val (v := ?_) rfl ?_ ?_
    rotate_left
    ·refine Eq.trans (run_load_row 23 (.tmp 5) (by rfl) (w.heap.size) (by rfl) _ _ _ _ (P0) Tryz.underlying23 rfl (ist.trans (by rw [arrv_size]))) ?_; with_reducible rfl
    (try simp only [Act.put, nA, nB, nC])
    refine wpList_val (v := ?_) rfl ?_ ?_
    rotate_left
    ·refine Eq.trans (run_load_row 26 (.tmp 6) (by rfl) (w.heap.size + 1) (by rfl) _ _ _ _ (P1) Tryz.underlying26 rfl (icov.trans (by rw [arrv_size]))) ?_; with_reducible rfl
    (try simp only [Act.put, nA, nB, nC])
    refine tv ?_
    (try simp only [Act.put, nA, nB, nC])
    refine tv ?_
    (try simp only [Act.put, nA, nB, nC])
    refine wpList_step (fun K hK => ?_)
    go_simp
    clear P0 P1; (refine (CR.out _ HS.out.c2 HS.out.f2).mono ?_); rintro e w3 ⟨rfl, hu⟩; have HS2 := Lib.hid (HS.out.updR hu); clear HS hu; have HS := HS2; clear HS2; have Q0 := HS.out.b; have Q1 := (show Blk (w3.setRow bb (arrv 24 AV)) yb 26 300 _ from HS.out.y.setRow_other _ (by have := HS.out.o; omega)); have Q2 := (show Blk ((w3.setRow bb (arrv 24 AV)).setRow yb (arrv 300 XV)) eb 46 10 _ from (HS.out.e.setRow_other _ (by have := HS.out.o; omega)).setRow_other _ (by have := HS.out.o; omega))
    (try dsimp only)
    (try simp only [Act.put, nA, nB, nC])
    refine hK _ _ ?_
    clear hK K
    refine tv ?_
    (try simp only [Act.put, nA, nB, nC])
    refine tv ?_
    (try simp only [Act.put, nA, nB, nC])
    refine tv ?_
    (try simp only [Act.put, nA, nB, nC])
    refine tv ?_
    (try simp only [Act.put, nA, nB, nC])
    refine wpList_done (w' := ?_) rfl ?_ ?_
    rotate_left
    ·refine Eq.trans (run_store_row 23 (.tmp 15) (.tmp 78) (by rfl) (bb) (by rfl) (by rfl) (Q0) (ist.trans rfl)) ?_; with_reducible rfl
    (try simp only [Act.put, nA, nB, nC])
    refine wpList_done (w' := ?_) rfl ?_ ?_
    rotate_left
    ·(refine Eq.trans (run_store_row 26 (.tmp 17) (.tmp 79) (by rfl) yb (by rfl) (by rfl) Q1 (icov.trans rfl)) ?_; with_reducible rfl)
    (try simp only [Act.put, nA, nB, nC])
    refine wpList_done (w' := ?_) rfl ?_ ?_
    rotate_left
    ·(refine Eq.trans (run_store_row 46 (.tmp 19) (.tmp 80) (by rfl) eb (by rfl) (by rfl) Q2 (irdl.trans rfl)) ?_; with_reducible rfl)
    (try simp only [Act.put, nA, nB, nC])
    refine wpList_nil ?_
    have HS2 := Lib.hid (((HS.out.set_b AV).set_y XV).set_e EV)
    clear HS Q0 Q1 Q2
    have HS := HS2
    clear HS2
    generalize ((w3.setRow bb (arrv 24 AV)).setRow yb (arrv 300 XV)).setRow eb (arrv 10 EV) = W3 at *
    clear CO CR
    go_upto_region 26 with fail
    have HS2 := Lib.hid HS.out.drew
    clear HS
    have HS := HS2
    clear HS2
    have hbb : (H != H) = false := by simp
    (try simp only [Act.put])
    refine wp_region_M (fun w' => (Blk w' ab 23 24 AV ∧ Blk w' bb 23 24 AV) ∧ (Blk w' xb 26 300 XV ∧ Blk w' yb 26 300 XV) ∧ (Blk w' db 42 11 DV ∧ Blk w' eb 46 10 EV) ∧ w'.cell? ⟨db, 10, none⟩ = some (.int .i64 1) ∧ w'.cell? ⟨bc, 0, none⟩ = some (.bool H) ∧ w'.cell? ⟨rc, 0, none⟩ = some (.bool H)) 33 (by kernel_rfl) ?_ (fun hHeld => ?_)
    ·exact ⟨⟨HS.out.a, HS.out.b⟩, ⟨HS.out.x, HS.out.y⟩, ⟨HS.out.d, HS.out.e⟩, EK.out ▸ HS.out.d.cell (by decide), HS.out.c1, HS.out.c2⟩
    refine tx [2, 3, 8, 11, 15, 22, 33] 0 (v := ?_) ?_ ?_
    rotate_left
    ·(intro wx hSw; refine Eq.trans (run_load_row 23 (.tmp 14) (by rfl) (ab) (by rfl) _ _ _ _ (hSw.1.1) Tryz.underlying23 rfl (ist.trans (by rw [arrv_size]))) ?_; with_reducible rfl)
    (try simp only [Act.put, nA, nB, nC])
    refine tx [2, 3, 8, 11, 15, 22, 33] 1 (v := ?_) ?_ ?_
    rotate_left
    ·(intro wx hSw; refine Eq.trans (run_load_row 23 (.tmp 15) (by rfl) (bb) (by rfl) _ _ _ _ (hSw.1.2) Tryz.underlying23 rfl (ist.trans (by rw [arrv_size]))) ?_; with_reducible rfl)
    (try simp only [Act.put, nA, nB, nC])
    refine tx [3, 8, 11, 15, 22, 33] 2 (v := ?_) ?_ ?_
    rotate_left
    ·(intro wx hSw; refine Eq.trans (run_op_neqS (.tmp 131) (.tmp 132) (by rfl) (by rfl) (by rfl)) ?_; with_reducible rfl)
    (try simp only [Act.put, nA, nB, nC])
    refine tx [8, 11, 15, 22, 33] 3 (v := ?_) ?_ ?_
    rotate_left
    ·(intro wx hSw; (try dsimp only at hSw); go_simp; (try with_reducible rfl))
    (try simp only [Act.put, nA, nB, nC])
    refine tx [6, 7, 8, 11, 15, 22, 33] 4 (v := ?_) ?_ ?_
    rotate_left
    ·(intro wx hSw; refine Eq.trans (run_load_row 26 (.tmp 16) (by rfl) (xb) (by rfl) _ _ _ _ (hSw.2.1.1) Tryz.underlying26 rfl (icov.trans (by rw [arrv_size]))) ?_; with_reducible rfl)
    (try simp only [Act.put, nA, nB, nC])
    refine tx [6, 7, 8, 11, 15, 22, 33] 5 (v := ?_) ?_ ?_
    rotate_left
    ·(intro wx hSw; refine Eq.trans (run_load_row 26 (.tmp 17) (by rfl) (yb) (by rfl) _ _ _ _ (hSw.2.1.2) Tryz.underlying26 rfl (icov.trans (by rw [arrv_size]))) ?_; with_reducible rfl)
    (try simp only [Act.put, nA, nB, nC])
    refine tx [7, 8, 11, 15, 22, 33] 6 (v := ?_) ?_ ?_
    rotate_left
    ·(intro wx hSw; refine Eq.trans (run_op_neqC (.tmp 135) (.tmp 136) (by rfl) (by rfl) (by rfl)) ?_; with_reducible rfl)
    (try simp only [Act.put, nA, nB, nC])
    refine tx [8, 11, 15, 22, 33] 7 (v := ?_) ?_ ?_
    rotate_left
    ·(intro wx hSw; (try dsimp only at hSw); go_simp; (try with_reducible rfl))
    (try simp only [Act.put, nA, nB, nC])
    refine tx [11, 15, 22, 33] 8 (v := ?_) ?_ ?_
    rotate_left
    ·(intro wx hSw; (try dsimp only at hSw); go_simp; (try with_reducible rfl))
    (try simp only [Act.put, nA, nB, nC])
    refine tx [10, 11, 15, 22, 33] 9 (v := ?_) ?_ ?_
    rotate_left
    ·(intro wx hSw; (try dsimp only at hSw); go_simp; (try with_reducible rfl))
    (try simp only [Act.put, nA, nB, nC])
    refine tx [11, 15, 22, 33] 10 (v := ?_) ?_ ?_
    rotate_left
    ·(intro wx hSw; refine Eq.trans (run_load_sub 40 (.tmp 140) (by rfl) db 0 10 (by rfl) hSw.2.2.1.1 (by decide) _ Tryz.underlying40 rfl idl0) ?_; rw [E10.out])
    (try simp only [Act.put, nA, nB, nC])
    refine tx [13, 14, 15, 22, 33] 12 (v := ?_) ?_ ?_
    rotate_left
    ·(intro wx hSw; refine Eq.trans (run_load_row 46 (.tmp 19) (by rfl) eb (by rfl) _ _ _ _ hSw.2.2.1.2 Tryz.underlying46 rfl (irdl.trans (by rw [arrv_size]))) ?_; with_reducible rfl)
    (try simp only [Act.put, nA, nB, nC])
    refine wpAnyM_oneS 11 rfl (by kernel_rfl) (fun K hK => ?_)
    go_simp
    (refine (own26_any EV _).mono ?_); rintro e w4 ⟨rfl, hb⟩; have HS2 := Lib.hid (HS.out.down hb); clear HS hb; have HS := HS2; clear HS2
    (try dsimp only)
    (try simp only [Act.put, nA, nB, nC])
    clear hHeld
    refine hK.out _ _ ?_ (fun hHeld => ?_)
    ·exact ⟨⟨HS.out.a, HS.out.b⟩, ⟨HS.out.x, HS.out.y⟩, ⟨HS.out.d, HS.out.e⟩, EK.out ▸ HS.out.d.cell (by decide), HS.out.c1, HS.out.c2⟩
    clear hK K
    (try simp only [Act.put, nA, nB, nC])
    refine tx [14, 15, 22, 33] 13 (v := ?_) ?_ ?_
    rotate_left
    ·(intro wx hSw; refine Eq.trans (run_op_neqD (.tmp 142) (.tmp 143) (by rfl) (by rfl) (by rfl)) ?_; with_reducible rfl)
    (try simp only [Act.put, nA, nB, nC])
    refine tx [15, 22, 33] 14 (v := ?_) ?_ ?_
    rotate_left
    ·(intro wx hSw; (try dsimp only at hSw); go_simp; (try with_reducible rfl))
    (try simp only [Act.put, nA, nB, nC])
    refine tx [22, 33] 15 (v := ?_) ?_ ?_
    rotate_left
    ·(intro wx hSw; (try dsimp only at hSw); go_simp; (try with_reducible rfl))
    (try simp only [Act.put, nA, nB, nC])
    refine tx [17, 20, 21, 22, 33] 16 (v := ?_) ?_ ?_
    rotate_left
    ·(intro wx hSw; (try dsimp only at hSw); go_simp; (try with_reducible rfl))
    (try simp only [Act.put, nA, nB, nC])
    refine tx [20, 21, 22, 33] 17 (v := ?_) ?_ ?_
    rotate_left
    ·(intro wx hSw; have q := hSw.2.2.2.1; go_simp; (try with_reducible rfl))
    (try simp only [Act.put, nA, nB, nC])
    refine tx [19, 20, 21, 22, 33] 18 (v := ?_) ?_ ?_
    rotate_left
    ·(intro wx hSw; (try dsimp only at hSw); go_simp; (try with_reducible rfl))
    (try simp only [Act.put, nA, nB, nC])
    refine tx [20, 21, 22, 33] 19 (v := ?_) ?_ ?_
    rotate_left
    ·(intro wx hSw; (try dsimp only at hSw); go_simp; (try with_reducible rfl))
    (try simp only [Act.put, nA, nB, nC])
    refine tx [21, 22, 33] 20 (v := ?_) ?_ ?_
    rotate_left
    ·(intro wx hSw; (try dsimp only at hSw); go_simp; (try with_reducible rfl))
    (try simp only [Act.put, nA, nB, nC])
    refine tx [22, 33] 21 (v := ?_) ?_ ?_
    rotate_left
    ·(intro wx hSw; (try dsimp only at hSw); go_simp; (try with_reducible rfl))
    (try simp only [Act.put, nA, nB, nC])
    refine tk 22 ?_
    (try simp only [Act.put, nA, nB, nC])
    refine tx [24, 25, 26, 32, 33] 23 (v := ?_) ?_ ?_
    rotate_left
    ·(intro wx hSw; (try dsimp only at hSw); go_simp; (try with_reducible rfl))
    (try simp only [Act.put, nA, nB, nC])
    refine tx [25, 26, 32, 33] 24 (v := ?_) ?_ ?_
    rotate_left
    ·(intro wx hSw; (try dsimp only at hSw); go_simp; (try with_reducible rfl))
    (try simp only [Act.put, nA, nB, nC])
    refine tx [26, 32, 33] 25 (v := ?_) ?_ ?_
    rotate_left
    ·(intro wx hSw; (try dsimp only at hSw); go_simp; (try with_reducible rfl))
    (try simp only [Act.put, nA, nB, nC])
    refine tx [32, 33] 26 (v := ?_) ?_ ?_
    rotate_left
    ·(intro wx hSw; have q := hSw.2.2.2.2.1; go_simp; (try with_reducible rfl))
    (try simp only [Act.put, nA, nB, nC])
    refine tx [28, 29, 30, 31, 32, 33] 27 (v := ?_) ?_ ?_
    rotate_left
    ·(intro wx hSw; (try dsimp only at hSw); go_simp; (try with_reducible rfl))
    (try simp only [Act.put, nA, nB, nC])
    refine tx [29, 30, 31, 32, 33] 28 (v := ?_) ?_ ?_
    rotate_left
    ·(intro wx hSw; (try dsimp only at hSw); go_simp; (try with_reducible rfl))
    (try simp only [Act.put, nA, nB, nC])
    refine tx [30, 31, 32, 33] 29 (v := ?_) ?_ ?_
    rotate_left
    ·(intro wx hSw; (try dsimp only at hSw); go_simp; (try with_reducible rfl))
    (try simp only [Act.put, nA, nB, nC])
    refine tx [31, 32, 33] 30 (v := ?_) ?_ ?_
    rotate_left
    ·(intro wx hSw; (try dsimp only at hSw); go_simp; (try with_reducible rfl))
    (try simp only [Act.put, nA, nB, nC])
    refine tx [32, 33] 31 (v := ?_) ?_ ?_
    rotate_left
    ·(intro wx hSw; have q := hSw.2.2.2.2.2; go_simp; (try with_reducible rfl))
    (try simp only [Act.put, nA, nB, nC])
    refine tk 32 ?_
    (try simp only [Act.put, nA, nB, nC])
    refine wpAnyM_one 33 rfl (by kernel_rfl) (fun K hK => ?_)
    go_simp
    refine hK.out _ _ (.inl (by kernel_rfl)) (fun _ => ?_)
    clear hK K
    (try simp only [Act.put, nA, nB, nC])
    refine wpAnyM_done (by kernel_rfl) ?_ _
    go_wp2_with fail
    go_roundw
    case rel => exact ⟨1, by omega, by go_num, Lib.hid HS.out.bs⟩
    case measure => simp [intOf]
   ·rw [show ((1 : Nat) : Int) = 1 from rfl]
    have CO0 := fun (x : World) h1 h2 => vel_any ⟨bc, 0, none⟩ false S P T v x h1 h2
    have CR0 := fun (x : World) h1 h2 => rvel_any ⟨rc, 0, none⟩ false S P T v x h1 h2
    obtain ⟨AV, hA⟩ : ∃ x, jpS S 4 T 3 = x := ⟨_, rfl⟩
    obtain ⟨XV, hX⟩ : ∃ x, stepF P (rtF 4 3) (rtQ 4 (fun _ => v) 3) = x := ⟨_, rfl⟩
    obtain ⟨H, hH⟩ : ∃ x, (jpH false S 4 T 3 || orB (rtB 4 (fun _ => v)) 3 || stepH P (rtF 4 3) (rtQ 4 (fun _ => v) 3)) = x := ⟨_, rfl⟩
    obtain ⟨DV, hD⟩ : ∃ x, midF (tdF dl0 2) 4 3 (mvD (keepF S) 4 T) = x := ⟨_, rfl⟩
    obtain ⟨EV, hE⟩ : ∃ x, midF dl0 4 3 (mvD (keepF S) 4 T) = x := ⟨_, rfl⟩
    simp only [hA, hX, hH, hD] at CO0
    simp only [hA, hX, hH, hE] at CR0
    have CO := Lib.hid CO0
    have CR := Lib.hid CR0
    clear CO0 CR0
    have E10 := Lib.hid (show arrv 10 (fun i => DV (0 + i)) = arrv 10 EV by rw [← hD, ← hE]; exact mid_E 2 4 3 (mvD (keepF S) 4 T))
    have EK := Lib.hid (show DV 10 = 2 by rw [← hD]; exact mid_K 2 4 3 (mvD (keepF S) 4 T) (by omega))
    clear hA hX hH hD hE
    go_upto_region 21 with fail
    have P0 := HS.out.s
    have P1 := HS.out.p
    have P2 := HS.out.t
    refine wp_region_lit ?_
    refine tv ?_
    (try simp only [Act.put, nA, nB, nC])
    refine wpList_val (v := ?_) rfl ?_ ?_
    rotate_left
    ·refine Eq.trans (run_load_row 23 (.tmp 5) (by rfl) (w.heap.size) (by rfl) _ _ _ _ (P0) Tryz.underlying23 rfl (ist.trans (by rw [arrv_size]))) ?_; with_reducible rfl
    (try simp only [Act.put, nA, nB, nC])
    refine wpList_val (v := ?_) rfl ?_ ?_
    rotate_left
    ·refine Eq.trans (run_load_row 26 (.tmp 6) (by rfl) (w.heap.size + 1) (by rfl) _ _ _ _ (P1) Tryz.underlying26 rfl (icov.trans (by rw [arrv_size]))) ?_; with_reducible rfl
    (try simp only [Act.put, nA, nB, nC])
    refine wpList_val (v := ?_) rfl ?_ ?_
    rotate_left
    ·(refine Eq.trans (run_load_row 28 (.tmp 7) (by rfl) (w.heap.size + 1 + 1) (by rfl) _ _ _ _ P2 Tryz.underlying28 rfl (iv3.trans (by rw [arrv_size]))) ?_; with_reducible rfl)
    (try simp only [Act.put, nA, nB, nC])
    refine tv ?_
    (try simp only [Act.put, nA, nB, nC])
    refine wpList_step (fun K hK => ?_)
    go_simp
    clear P0 P1 P2; (refine (CO.out _ HS.out.c1 HS.out.f1).mono ?_); rintro e w2 ⟨rfl, hu⟩; have HS2 := Lib.hid (HS.out.updB hu); clear HS hu; have HS := HS2; clear HS2; have Q0 := HS.out.a; have Q1 := (show Blk (w2.setRow ab (arrv 24 AV)) xb 26 300 _ from HS.out.x.setRow_other _ (by have := HS.out.o; omega)); have Q2 := (show Blk ((w2.setRow ab (arrv 24 AV)).setRow xb (arrv 300 XV)) db 42 11 _ from (HS.out.d.setRow_other _ (by have := HS.out.o; omega)).setRow_other _ (by have := HS.out.o; omega))
    (try dsimp only)
    (try simp only [Act.put, nA, nB, nC])
    refine hK _ _ ?_
    clear hK K
    refine tv ?_
    (try simp only [Act.put, nA, nB, nC])
    refine tv ?_
    (try simp only [Act.put, nA, nB, nC])
    refine tv ?_
    (try simp only [Act.put, nA, nB, nC])
    refine tv ?_
    (try simp only [Act.put, nA, nB, nC])
    refine wpList_done (w' := ?_) rfl ?_ ?_
    rotate_left
    ·refine Eq.trans (run_store_row 23 (.tmp 14) (.tmp 90) (by rfl) (ab) (by rfl) (by rfl) (Q0) (ist.trans rfl)) ?_; with_reducible rfl
    (try simp only [Act.put, nA, nB, nC])
    refine wpList_done (w' := ?_) rfl ?_ ?_
    rotate_left
    ·(refine Eq.trans (run_store_row 26 (.tmp 16) (.tmp 91) (by rfl) xb (by rfl) (by rfl) Q1 (icov.trans rfl)) ?_; with_reducible rfl)
    (try simp only [Act.put, nA, nB, nC])
    refine wpList_done (w' := ?_) rfl ?_ ?_
    rotate_left
    ·(refine Eq.trans (run_store_row 42 (.tmp 18) (.tmp 92) (by rfl) db (by rfl) (by rfl) Q2 (itd.trans rfl)) ?_; with_reducible rfl)
    (try simp only [Act.put, nA, nB, nC])
    refine wpList_nil ?_
    have HS2 := Lib.hid (((HS.out.set_a AV).set_x XV).set_d DV)
    clear HS Q0 Q1 Q2
    have HS := HS2
    clear HS2
    generalize ((w2.setRow ab (arrv 24 AV)).setRow xb (arrv 300 XV)).setRow db (arrv 11 DV) = W2 at *
    go_upto_region 22 with fail
    have P0 := HS.out.s
    have P1 := HS.out.p
    have P2 := HS.out.t
    refine wp_region_lit ?_
    refine tv ?_
    (try simp only [Act.put, nA, nB, nC])
    refine wpList_val (v := ?_) rfl ?_ ?_
    rotate_left
    ·refine Eq.trans (run_load_row 23 (.tmp 5) (by rfl) (w.heap.size) (by rfl) _ _ _ _ (P0) Tryz.underlying23 rfl (ist.trans (by rw [arrv_size]))) ?_; with_reducible rfl
    (try simp only [Act.put, nA, nB, nC])
    refine wpList_val (v := ?_) rfl ?_ ?_
    rotate_left
    ·refine Eq.trans (run_load_row 26 (.tmp 6) (by rfl) (w.heap.size + 1) (by rfl) _ _ _ _ (P1) Tryz.underlying26 rfl (icov.trans (by rw [arrv_size]))) ?_; with_reducible rfl
    (try simp only [Act.put, nA, nB, nC])
    refine wpList_val (v := ?_) rfl ?_ ?_
    rotate_left
    ·(refine Eq.trans (run_load_row 28 (.tmp 7) (by rfl) (w.heap.size + 1 + 1) (by rfl) _ _ _ _ P2 Tryz.underlying28 rfl (iv3.trans (by rw [arrv_size]))) ?_; with_reducible rfl)
    (try simp only [Act.put, nA, nB, nC])
    refine tv ?_
    (try simp only [Act.put, nA, nB, nC])
    refine wpList_step (fun K hK => ?_)
    go_simp
    clear P0 P1 P2; (refine (CR.out _ HS.out.c2 HS.out.f2).mono ?_); rintro e w3 ⟨rfl, hu⟩; have HS2 := Lib.hid (HS.out.updR hu); clear HS hu; have HS := HS2; clear HS2; have Q0 := HS.out.b; have Q1 := (show Blk (w3.setRow bb (arrv 24 AV)) yb 26 300 _ from HS.out.y.setRow_other _ (by have := HS.out.o; omega)); have Q2 := (show Blk ((w3.setRow bb (arrv 24 AV)).setRow yb (arrv 300 XV)) eb 46 10 _ from (HS.out.e.setRow_other _ (by have := HS.out.o; omega)).setRow_other _ (by have := HS.out.o; omega))
    (try dsimp only)
    (try simp only [Act.put, nA, nB, nC])
    refine hK _ _ ?_
    clear hK K
    refine tv ?_
    (try simp only [Act.put, nA, nB, nC])
    refine tv ?_
    (try simp only [Act.put, nA, nB, nC])
    refine tv ?_
    (try simp only [Act.put, nA, nB, nC])
    refine tv ?_
    (try simp only [Act.put, nA, nB, nC])
    refine wpList_done (w' := ?_) rfl ?_ ?_
    rotate_left
    ·refine Eq.trans (run_store_row 23 (.tmp 15) (.tmp 100) (by rfl) (bb) (by rfl) (by rfl) (Q0) (ist.trans rfl)) ?_; with_reducible rfl
    (try simp only [Act.put, nA, nB, nC])
    refine wpList_done (w' := ?_) rfl ?_ ?_
    rotate_left
    ·(refine Eq.trans (run_store_row 26 (.tmp 17) (.tmp 101) (by rfl) yb (by rfl) (by rfl) Q1 (icov.trans rfl)) ?_; with_reducible rfl)
    (try simp only [Act.put, nA, nB, nC])
    refine wpList_done (w' := ?_) rfl ?_ ?_
    rotate_left
    ·(refine Eq.trans (run_store_row 46 (.tmp 19) (.tmp 102) (by rfl) eb (by rfl) (by rfl) Q2 (irdl.trans rfl)) ?_; with_reducible rfl)
    (try simp only [Act.put, nA, nB, nC])
    refine wpList_nil ?_
    have HS2 := Lib.hid (((HS.out.set_b AV).set_y XV).set_e EV)
    clear HS Q0 Q1 Q2
    have HS := HS2
    clear HS2
    generalize ((w3.setRow bb (arrv 24 AV)).setRow yb (arrv 300 XV)).setRow eb (arrv 10 EV) = W3 at *
    clear CO CR
    go_upto_region 26 with fail
    have HS2 := Lib.hid HS.out.drew
    clear HS
    have HS := HS2
    clear HS2
    have hbb : (H != H) = false := by simp
    (try simp only [Act.put])
    refine wp_region_M (fun w' => (Blk w' ab 23 24 AV ∧ Blk w' bb 23 24 AV) ∧ (Blk w' xb 26 300 XV ∧ Blk w' yb 26 300 XV) ∧ (Blk w' db 42 11 DV ∧ Blk w' eb 46 10 EV) ∧ w'.cell? ⟨db, 10, none⟩ = some (.int .i64 2) ∧ w'.cell? ⟨bc, 0, none⟩ = some (.bool H) ∧ w'.cell? ⟨rc, 0, none⟩ = some (.bool H)) 33 (by kernel_rfl) ?_ (fun hHeld => ?_)
    ·exact ⟨⟨HS.out.a, HS.out.b⟩, ⟨HS.out.x, HS.out.y⟩, ⟨HS.out.d, HS.out.e⟩, EK.out ▸ HS.out.d.cell (by decide), HS.out.c1, HS.out.c2⟩
    refine tx [2, 3, 8, 11, 15, 22, 33] 0 (v := ?_) ?_ ?_
    rotate_left
    ·(intro wx hSw; refine Eq.trans (run_load_row 23 (.tmp 14) (by rfl) (ab) (by rfl) _ _ _ _ (hSw.1.1) Tryz.underlying23 rfl (ist.trans (by rw [arrv_size]))) ?_; with_reducible rfl)
    (try simp only [Act.put, nA, nB, nC])
    refine tx [2, 3, 8, 11, 15, 22, 33] 1 (v := ?_) ?_ ?_
    rotate_left
    ·(intro wx hSw; refine Eq.trans (run_load_row 23 (.tmp 15) (by rfl) (bb) (by rfl) _ _ _ _ (hSw.1.2) Tryz.underlying23 rfl (ist.trans (by rw [arrv_size]))) ?_; with_reducible rfl)
    (try simp only [Act.put, nA, nB, nC])
    refine tx [3, 8, 11, 15, 22, 33] 2 (v := ?_) ?_ ?_
    rotate_left
    ·(intro wx hSw; refine Eq.trans (run_op_neqS (.tmp 131) (.tmp 132) (by rfl) (by rfl) (by rfl)) ?_; with_reducible rfl)
    (try simp only [Act.put, nA, nB, nC])
    refine tx [8, 11, 15, 22, 33] 3 (v := ?_) ?_ ?_
    rotate_left
    ·(intro wx hSw; (try dsimp only at hSw); go_simp; (try with_reducible rfl))
    (try simp only [Act.put, nA, nB, nC])
    refine tx [6, 7, 8, 11, 15, 22, 33] 4 (v := ?_) ?_ ?_
    rotate_left
    ·(intro wx hSw; refine Eq.trans (run_load_row 26 (.tmp 16) (by rfl) (xb) (by rfl) _ _ _ _ (hSw.2.1.1) Tryz.underlying26 rfl (icov.trans (by rw [arrv_size]))) ?_; with_reducible rfl)
    (try simp only [Act.put, nA, nB, nC])
    refine tx [6, 7, 8, 11, 15, 22, 33] 5 (v := ?_) ?_ ?_
    rotate_left
    ·(intro wx hSw; refine Eq.trans (run_load_row 26 (.tmp 17) (by rfl) (yb) (by rfl) _ _ _ _ (hSw.2.1.2) Tryz.underlying26 rfl (icov.trans (by rw [arrv_size]))) ?_; with_reducible rfl)
    (try simp only [Act.put, nA, nB, nC])
    refine tx [7, 8, 11, 15, 22, 33] 6 (v := ?_) ?_ ?_
    rotate_left
    ·(intro wx hSw; refine Eq.trans (run_op_neqC (.tmp 135) (.tmp 136) (by rfl) (by rfl) (by rfl)) ?_; with_reducible rfl)
    (try simp only [Act.put, nA, nB, nC])
    refine tx [8, 11, 15, 22, 33] 7 (v := ?_) ?_ ?_
    rotate_left
    ·(intro wx hSw; (try dsimp only at hSw); go_simp; (try with_reducible rfl))
    (try simp only [Act.put, nA, nB, nC])
    refine tx [11, 15, 22, 33] 8 (v := ?_) ?_ ?_
    rotate_left
    ·(intro wx hSw; (try dsimp only at hSw); go_simp; (try with_reducible rfl))
    (try simp only [Act.put, nA, nB, nC])
    refine tx [10, 11, 15, 22, 33] 9 (v := ?_) ?_ ?_
    rotate_left
    ·(intro wx hSw; (try dsimp only at hSw); go_simp; (try with_reducible rfl))
    (try simp only [Act.put, nA, nB, nC])
    refine tx [11, 15, 22, 33] 10 (v := ?_) ?_ ?_
    rotate_left
    ·(intro wx hSw; refine Eq.trans (run_load_sub 40 (.tmp 140) (by rfl) db 0 10 (by rfl) hSw.2.2.1.1 (by decide) _ Tryz.underlying40 rfl idl0) ?_; rw [E10.out])
    (try simp only [Act.put, nA, nB, nC])
    refine tx [13, 14, 15, 22, 33] 12 (v := ?_) ?_ ?_
    rotate_left
    ·(intro wx hSw; refine Eq.trans (run_load_row 46 (.tmp 19) (by rfl) eb (by rfl) _ _ _ _ hSw.2.2.1.2 Tryz.underlying46 rfl (irdl.trans (by rw [arrv_size]))) ?_; with_reducible rfl)
    (try simp only [Act.put, nA, nB, nC])
    refine wpAnyM_oneS 11 rfl (by kernel_rfl) (fun K hK => ?_)
    go_simp
    (refine (own26_any EV _).mono ?_); rintro e w4 ⟨rfl, hb⟩; have HS2 := Lib.hid (HS.out.down hb); clear HS hb; have HS := HS2; clear HS2
    (try dsimp only)
    (try simp only [Act.put, nA, nB, nC])
    clear hHeld
    refine hK.out _ _ ?_ (fun hHeld => ?_)
    ·exact ⟨⟨HS.out.a, HS.out.b⟩, ⟨HS.out.x, HS.out.y⟩, ⟨HS.out.d, HS.out.e⟩, EK.out ▸ HS.out.d.cell (by decide), HS.out.c1, HS.out.c2⟩
    clear hK K
    (try simp only [Act.put, nA, nB, nC])
    refine tx [14, 15, 22, 33] 13 (v := ?_) ?_ ?_
    rotate_left
    ·(intro wx hSw; refine Eq.trans (run_op_neqD (.tmp 142) (.tmp 143) (by rfl) (by rfl) (by rfl)) ?_; with_reducible rfl)
    (try simp only [Act.put, nA, nB, nC])
    refine tx [15, 22, 33] 14 (v := ?_) ?_ ?_
    rotate_left
    ·(intro wx hSw; (try dsimp only at hSw); go_simp; (try with_reducible rfl))
    (try simp only [Act.put, nA, nB, nC])
    refine tx [22, 33] 15 (v := ?_) ?_ ?_
    rotate_left
    ·(intro wx hSw; (try dsimp only at hSw); go_simp; (try with_reducible rfl))
    (try simp only [Act.put, nA, nB, nC])
    refine tx [17, 20, 21, 22, 33] 16 (v := ?_) ?_ ?_
    rotate_left
    ·(intro wx hSw; (try dsimp only at hSw); go_simp; (try with_reducible rfl))
    (try simp only [Act.put, nA, nB, nC])
    refine tx [20, 21, 22, 33] 17 (v := ?_) ?_ ?_
    rotate_left
    ·(intro wx hSw; have q := hSw.2.2.2.1; go_simp; (try with_reducible rfl))
    (try simp only [Act.put, nA, nB, nC])
    refine tx [19, 20, 21, 22, 33] 18 (v := ?_) ?_ ?_
    rotate_left
    ·(intro wx hSw; (try dsimp only at hSw); go_simp; (try with_reducible rfl))
    (try simp only [Act.put, nA, nB, nC])
    refine tx [20, 21, 22, 33] 19 (v := ?_) ?_ ?_
    rotate_left
    ·(intro wx hSw; (try dsimp only at hSw); go_simp; (try with_reducible rfl))
    (try simp only [Act.put, nA, nB, nC])
    refine tx [21, 22, 33] 20 (v := ?_) ?_ ?_
    rotate_left
    ·(intro wx hSw; (try dsimp only at hSw); go_simp; (try with_reducible rfl))
    (try simp only [Act.put, nA, nB, nC])
    refine tx [22, 33] 21 (v := ?_) ?_ ?_
    rotate_left
    ·(intro wx hSw; (try dsimp only at hSw); go_simp; (try with_reducible rfl))
    (try simp only [Act.put, nA, nB, nC])
    refine tk 22 ?_
    (try simp only [Act.put, nA, nB, nC])
    refine tx [24, 25, 26, 32, 33] 23 (v := ?_) ?_ ?_
    rotate_left
    ·(intro wx hSw; (try dsimp only at hSw); go_simp; (try with_reducible rfl))
    (try simp only [Act.put, nA, nB, nC])
    refine tx [25, 26, 32, 33] 24 (v := ?_) ?_ ?_
    rotate_left
    ·(intro wx hSw; (try dsimp only at hSw); go_simp; (try with_reducible rfl))
    (try simp only [Act.put, nA, nB, nC])
    refine tx [26, 32, 33] 25 (v := ?_) ?_ ?_
    rotate_left
    ·(intro wx hSw; (try dsimp only at hSw); go_simp; (try with_reducible rfl))
    (try simp only [Act.put, nA, nB, nC])
    refine tx [32, 33] 26 (v := ?_) ?_ ?_
    rotate_left
    ·(intro wx hSw; have q := hSw.2.2.2.2.1; go_simp; (try with_reducible rfl))
    (try simp only [Act.put, nA, nB, nC])
    refine tx [28, 29, 30, 31, 32, 33] 27 (v := ?_) ?_ ?_
    rotate_left
    ·(intro wx hSw; (try dsimp only at hSw); go_simp; (try with_reducible rfl))
    (try simp only [Act.put, nA, nB, nC])
    refine tx [29, 30, 31, 32, 33] 28 (v := ?_) ?_ ?_
    rotate_left
    ·(intro wx hSw; (try dsimp only at hSw); go_simp; (try with_reducible rfl))
    (try simp only [Act.put, nA, nB, nC])
    refine tx [30, 31, 32, 33] 29 (v := ?_) ?_ ?_
    rotate_left
    ·(intro wx hSw; (try dsimp only at hSw); go_simp; (try with_reducible rfl))
    (try simp only [Act.put, nA, nB, nC])
    refine tx [31, 32, 33] 30 (v := ?_) ?_ ?_
    rotate_left
    ·(intro wx hSw; (try dsimp only at hSw); go_simp; (try with_reducible rfl))
    (try simp only [Act.put, nA, nB, nC])
    refine tx [32, 33] 31 (v := ?_) ?_ ?_
    rotate_left
    ·(intro wx hSw; have q := hSw.2.2.2.2.2; go_simp; (try with_reducible rfl))
    (try simp only [Act.put, nA, nB, nC])
    refine tk 32 ?_
    (try simp only [Act.put, nA, nB, nC])
    refine wpAnyM_one 33 rfl (by kernel_rfl) (fun K hK => ?_)
    go_simp
    refine hK.out _ _ (.inl (by kernel_rfl)) (fun _ => ?_)
    clear hK K
    (try simp only [Act.put, nA, nB, nC])
    refine wpAnyM_done (by kernel_rfl) ?_ _
    go_wp2_with fail
    go_roundw
    case rel => exact ⟨2, by omega, by go_num, Lib.hid HS.out.bs⟩
    case measure => simp [intOf]
   ·rw [show ((2 : Nat) : Int) = 2 from rfl]
    have CO0 := fun (x : World) h1 h2 => hor_any ⟨bc, 0, none⟩ false S P (T 0) (T 1) v x h1 h2
    have CR0 := fun (x : World) h1 h2 => rhor_any ⟨rc, 0, none⟩ false S P (T 0) (T 1) v x h1 h2
    obtain ⟨AV, hA⟩ : ∃ x, jpS S 7 (two2 (T 0) (T 1)) 2 = x := ⟨_, rfl⟩
    obtain ⟨XV, hX⟩ : ∃ x, stepF P (rtF 7 2) (rtQ 7 (fun _ => v) 2) = x := ⟨_, rfl⟩
    obtain ⟨H, hH⟩ : ∃ x, (jpH false S 7 (two2 (T 0) (T 1)) 2 || orB (rtB 7 (fun _ => v)) 2 || stepH P (rtF 7 2) (rtQ 7 (fun _ => v) 2)) = x := ⟨_, rfl⟩
    obtain ⟨DV, hD⟩ : ∃ x, midF (tdF dl0 3) 7 2 (mvD (keepF S) 7 (two2 (T 0) (T 1))) = x := ⟨_, rfl⟩
    obtain ⟨EV, hE⟩ : ∃ x, midF dl0 7 2 (mvD (keepF S) 7 (two2 (T 0) (T 1))) = x := ⟨_, rfl⟩
    simp only [hA, hX, hH, hD] at CO0
    simp only [hA, hX, hH, hE] at CR0
    have CO := Lib.hid CO0
    have CR := Lib.hid CR0
    clear CO0 CR0
    have E10 := Lib.hid (show arrv 10 (fun i => DV (0 + i)) = arrv 10 EV by rw [← hD, ← hE]; exact mid_E 3 7 2 (mvD (keepF S) 7 (two2 (T 0) (T 1))))
    have EK := Lib.hid (show DV 10 = 3 by rw [← hD]; exact mid_K 3 7 2 (mvD (keepF S) 7 (two2 (T 0) (T 1))) (by omega))
    clear hA hX hH hD hE
    go_upto_region 24 with fail
    have P0 := HS.out.s
    have P1 := HS.out.p
    have t0 := HS.out.t.cell (i := 0) (by decide)
    have t1 := HS.out.t.cell (i := 1) (by decide)
    refine wp_region_lit ?_
    refine tv ?_
    (try simp only [Act.put, nA, nB, nC])
    refine wpList_val (v := ?_) rfl ?_ ?_
    rotate_left
    ·refine Eq.trans (run_load_row 23 (.tmp 5) (by rfl) (w.heap.size) (by rfl) _ _ _ _ (P0) Tryz.underlying23 rfl (ist.trans (by rw [arrv_size]))) ?_; with_reducible rfl
    (try simp only [Act.put, nA, nB, nC])
    refine wpList_val (v := ?_) rfl ?_ ?_
    rotate_left
    ·refine Eq.trans (run_load_row 26 (.tmp 6) (by rfl) (w.heap.size + 1) (by rfl) _ _ _ _ (P1) Tryz.underlying26 rfl (icov.trans (by rw [arrv_size]))) ?_; with_reducible rfl
    (try simp only [Act.put, nA, nB, nC])
    refine tv ?_
    (try simp only [Act.put, nA, nB, nC])
    refine wpList_val (v := ?_) rfl ?_ ?_
    rotate_left
    ·(go_simp; (try with_reducible rfl))
    (try simp only [Act.put, nA, nB, nC])
    refine tv ?_
    (try simp only [Act.put, nA, nB, nC])
    refine wpList_val (v := ?_) rfl ?_ ?_
    rotate_left
    ·(go_simp; (try with_reducible rfl))
    (try simp only [Act.put, nA, nB, nC])
    refine tv ?_
    (try simp only [Act.put, nA, nB, nC])
    refine wpList_step (fun K hK => ?_)
    go_simp
    clear P0 P1 t0 t1; (refine (CO.out _ HS.out.c1 HS.out.f1).mono ?_); rintro e w2 ⟨rfl, hu⟩; have HS2 := Lib.hid (HS.out.updB hu); clear HS hu; have HS := HS2; clear HS2; have Q0 := HS.out.a; have Q1 := (show Blk (w2.setRow ab (arrv 24 AV)) xb 26 300 _ from HS.out.x.setRow_other _ (by have := HS.out.o; omega)); have Q2 := (show Blk ((w2.setRow ab (arrv 24 AV)).setRow xb (arrv 300 XV)) db 42 11 _ from (HS.out.d.setRow_other _ (by have := HS.out.o; omega)).setRow_other _ (by have := HS.out.o; omega))
    (try dsimp only)
    (try simp only [Act.put, nA, nB, nC])
    refine hK _ _ ?_
    clear hK K
    refine tv ?_
    (try simp only [Act.put, nA, nB, nC])
    refine tv ?_
    (try simp only [Act.put, nA, nB, nC])
    refine tv ?_
    (try simp only [Act.put, nA, nB, nC])
    refine tv ?_
    (try simp only [Act.put, nA, nB, nC])
    refine wpList_done (w' := ?_) rfl ?_ ?_
    rotate_left
    ·refine Eq.trans (run_store_row 23 (.tmp 14) (.tmp 115) (by rfl) (ab) (by rfl) (by rfl) (Q0) (ist.trans rfl)) ?_; with_reducible rfl
    (try simp only [Act.put, nA, nB, nC])
    refine wpList_done (w' := ?_) rfl ?_ ?_
    rotate_left
    ·(refine Eq.trans (run_store_row 26 (.tmp 16) (.tmp 116) (by rfl) xb (by rfl) (by rfl) Q1 (icov.trans rfl)) ?_; with_reducible rfl)
    (try simp only [Act.put, nA, nB, nC])
    refine wpList_done (w' := ?_) rfl ?_ ?_
    rotate_left
    ·(refine Eq.trans (run_store_row 42 (.tmp 18) (.tmp 117) (by rfl) db (by rfl) (by rfl) Q2 (itd.trans rfl)) ?_; with_reducible rfl)
    (try simp only [Act.put, nA, nB, nC])
    refine wpList_nil ?_
    have HS2 := Lib.hid (((HS.out.set_a AV).set_x XV).set_d DV)
    clear HS Q0 Q1 Q2
    have HS := HS2
    clear HS2
    generalize ((w2.setRow ab (arrv 24 AV)).setRow xb (arrv 300 XV)).setRow db (arrv 11 DV) = W2 at *
    go_upto_region 25 with fail
    have P0 := HS.out.s
    have P1 := HS.out.p
    have t0 := HS.out.t.cell (i := 0) (by decide)
    have t1 := HS.out.t.cell (i := 1) (by decide)
    refine wp_region_lit ?_
    refine tv ?_
    (try simp only [Act.put, nA, nB, nC])
    refine wpList_val (v := ?_) rfl ?_ ?_
    rotate_left
    ·refine Eq.trans (run_load_row 23 (.tmp 5) (by rfl) (w.heap.size) (by rfl) _ _ _ _ (P0) Tryz.underlying23 rfl (ist.trans (by rw [arrv_size]))) ?_; with_reducible rfl
    (try simp only [Act.put, nA, nB, nC])
    refine wpList_val (v := ?_) rfl ?_ ?_
    rotate_left
    ·refine Eq.trans (run_load_row 26 (.tmp 6) (by rfl) (w.heap.size + 1) (by rfl) _ _ _ _ (P1) Tryz.underlying26 rfl (icov.trans (by rw [arrv_size]))) ?_; with_reducible rfl
    (try simp only [Act.put, nA, nB, nC])
    refine tv ?_
    (try simp only [Act.put, nA, nB, nC])
    refine wpList_val (v := ?_) rfl ?_ ?_
    rotate_left
    ·(go_simp; (try with_reducible rfl))
    (try simp only [Act.put, nA, nB, nC])
    refine tv ?_
    (try simp only [Act.put, nA, nB, nC])
    refine wpList_val (v := ?_) rfl ?_ ?_
    rotate_left
    ·(go_simp; (try with_reducible rfl))
    (try simp only [Act.put, nA, nB, nC])
    refine tv ?_
    (try simp only [Act.put, nA, nB, nC])
    refine wpList_step (fun K hK => ?_)
    go_simp
    clear P0 P1 t0 t1; (refine (CR.out _ HS.out.c2 HS.out.f2).mono ?_); rintro e w3 ⟨rfl, hu⟩; have HS2 := Lib.hid (HS.out.updR hu); clear HS hu; have HS := HS2; clear HS2; have Q0 := HS.out.b; have Q1 := (show Blk (w3.setRow bb (arrv 24 AV)) yb 26 300 _ from HS.out.y.setRow_other _ (by have := HS.out.o; omega)); have Q2 := (show Blk ((w3.setRow bb (arrv 24 AV)).setRow yb (arrv 300 XV)) eb 46 10 _ from (HS.out.e.setRow_other _ (by have := HS.out.o; omega)).setRow_other _ (by have := HS.out.o; omega))
    (try dsimp only)
    (try simp only [Act.put, nA, nB, nC])
    refine hK _ _ ?_
    clear hK K
    refine tv ?_
    (try simp only [Act.put, nA, nB, nC])
    refine tv ?_
    (try simp only [Act.put, nA, nB, nC])
    refine tv ?_
    (try simp only [Act.put, nA, nB, nC])
    refine tv ?_
    (try simp only [Act.put, nA, nB, nC])
    refine wpList_done (w' := ?_) rfl ?_ ?_
    rotate_left
    ·refine Eq.trans (run_store_row 23 (.tmp 15) (.tmp 128) (by rfl) (bb) (by rfl) (by rfl) (Q0) (ist.trans rfl)) ?_; with_reducible rfl
    (try simp only [Act.put, nA, nB, nC])
    refine wpList_done (w' := ?_) rfl ?_ ?_
    rotate_left
    ·(refine Eq.trans (run_store_row 26 (.tmp 17) (.tmp 129) (by rfl) yb (by rfl) (by rfl) Q1 (icov.trans rfl)) ?_; with_reducible rfl)
    (try simp only [Act.put, nA, nB, nC])
    refine wpList_done (w' := ?_) rfl ?_ ?_
    rotate_left
    ·(refine Eq.trans (run_store_row 46 (.tmp 19) (.tmp 130) (by rfl) eb (by rfl) (by rfl) Q2 (irdl.trans rfl)) ?_; with_reducible rfl)
    (try simp only [Act.put, nA, nB, nC])
    refine wpList_nil ?_
    have HS2 := Lib.hid (((HS.out.set_b AV).set_y XV).set_e EV)
    clear HS Q0 Q1 Q2
    have HS := HS2
    clear HS2
    generalize ((w3.setRow bb (arrv 24 AV)).setRow yb (arrv 300 XV)).setRow eb (arrv 10 EV) = W3 at *
    clear CO CR
    go_upto_region 26 with fail
    have HS2 := Lib.hid HS.out.drew
    clear HS
    have HS := HS2
    clear HS2
    have hbb : (H != H) = false := by simp
    (try simp only [Act.put])
    refine wp_region_M (fun w' => (Blk w' ab 23 24 AV ∧ Blk w' bb 23 24 AV) ∧ (Blk w' xb 26 300 XV ∧ Blk w' yb 26 300 XV) ∧ (Blk w' db 42 11 DV ∧ Blk w' eb 46 10 EV) ∧ w'.cell? ⟨db, 10, none⟩ = some (.int .i64 3) ∧ w'.cell? ⟨bc, 0, none⟩ = some (.bool H) ∧ w'.cell? ⟨rc, 0, none⟩ = some (.bool H)) 33 (by kernel_rfl) ?_ (fun hHeld => ?_)
    ·exact ⟨⟨HS.out.a, HS.out.b⟩, ⟨HS.out.x, HS.out.y⟩, ⟨HS.out.d, HS.out.e⟩, EK.out ▸ HS.out.d.cell (by decide), HS.out.c1, HS.out.c2⟩
    refine tx [2, 3, 8, 11, 15, 22, 33] 0 (v := ?_) ?_ ?_
    rotate_left
    ·(intro wx hSw; refine Eq.trans (run_load_row 23 (.tmp 14) (by rfl) (ab) (by rfl) _ _ _ _ (hSw.1.1) Tryz.underlying23 rfl (ist.trans (by rw [arrv_size]))) ?_; with_reducible rfl)
    (try simp only [Act.put, nA, nB, nC])
    refine tx [2, 3, 8, 11, 15, 22, 33] 1 (v := ?_) ?_ ?_
    rotate_left
    ·(intro wx hSw; refine Eq.trans (run_load_row 23 (.tmp 15) (by rfl) (bb) (by rfl) _ _ _ _ (hSw.1.2) Tryz.underlying23 rfl (ist.trans (by rw [arrv_size]))) ?_; with_reducible rfl)
    (try simp only [Act.put, nA, nB, nC])
    refine tx [3, 8, 11, 15, 22, 33] 2 (v := ?_) ?_ ?_
    rotate_left
    ·(intro wx hSw; refine Eq.trans (run_op_neqS (.tmp 131) (.tmp 132) (by rfl) (by rfl) (by rfl)) ?_; with_reducible rfl)
    (try simp only [Act.put, nA, nB, nC])
    refine tx [8, 11, 15, 22, 33] 3 (v := ?_) ?_ ?_
    rotate_left
    ·(intro wx hSw; (try dsimp only at hSw); go_simp; (try with_reducible rfl))
    (try simp only [Act.put, nA, nB, nC])
    refine tx [6, 7, 8, 11, 15, 22, 33] 4 (v := ?_) ?_ ?_
    rotate_left
    ·(intro wx hSw; refine Eq.trans (run_load_row 26 (.tmp 16) (by rfl) (xb) (by rfl) _ _ _ _ (hSw.2.1.1) Tryz.underlying26 rfl (icov.trans (by rw [arrv_size]))) ?_; with_reducible rfl)
    (try simp only [Act.put, nA, nB, nC])
    refine tx [6, 7, 8, 11, 15, 22, 33] 5 (v := ?_) ?_ ?_
    rotate_left
    ·(intro wx hSw; refine Eq.trans (run_load_row 26 (.tmp 17) (by rfl) (yb) (by rfl) _ _ _ _ (hSw.2.1.2) Tryz.underlying26 rfl (icov.trans (by rw [arrv_size]))) ?_; with_reducible rfl)
    (try simp only [Act.put, nA, nB, nC])
    refine tx [7, 8, 11, 15, 22, 33] 6 (v := ?_) ?_ ?_
    rotate_left
    ·(intro wx hSw; refine Eq.trans (run_op_neqC (.tmp 135) (.tmp 136) (by rfl) (by rfl) (by rfl)) ?_; with_reducible rfl)
    (try simp only [Act.put, nA, nB, nC])
    refine tx [8, 11, 15, 22, 33] 7 (v := ?_) ?_ ?_
    rotate_left
    ·(intro wx hSw; (try dsimp only at hSw); go_simp; (try with_reducible rfl))
    (try simp only [Act.put, nA, nB, nC])
    refine tx [11, 15, 22, 33] 8 (v := ?_) ?_ ?_
    rotate_left
    ·(intro wx hSw; (try dsimp only at hSw); go_simp; (try with_reducible rfl))
    (try simp only [Act.put, nA, nB, nC])
    refine tx [10, 11, 15, 22, 33] 9 (v := ?_) ?_ ?_
    rotate_left
    ·(intro wx hSw; (try dsimp only at hSw); go_simp; (try with_reducible rfl))
    (try simp only [Act.put, nA, nB, nC])
    refine tx [11, 15, 22, 33] 10 (v := ?_) ?_ ?_
    rotate_left
    ·(intro wx hSw; refine Eq.trans (run_load_sub 40 (.tmp 140) (by rfl) db 0 10 (by rfl) hSw.2.2.1.1 (by decide) _ Tryz.underlying40 rfl idl0) ?_; rw [E10.out])
    (try simp only [Act.put, nA, nB, nC])
    refine tx [13, 14, 15, 22, 33] 12 (v := ?_) ?_ ?_
    rotate_left
    ·(intro wx hSw; refine Eq.trans (run_load_row 46 (.tmp 19) (by rfl) eb (by rfl) _ _ _ _ hSw.2.2.1.2 Tryz.underlying46 rfl (irdl.trans (by rw [arrv_size]))) ?_; with_reducible rfl)
    (try simp only [Act.put, nA, nB, nC])
    refine wpAnyM_oneS 11 rfl (by kernel_rfl) (fun K hK => ?_)
    go_simp
    (refine (own26_any EV _).mono ?_); rintro e w4 ⟨rfl, hb⟩; have HS2 := Lib.hid (HS.out.down hb); clear HS hb; have HS := HS2; clear HS2
    (try dsimp only)
    (try simp only [Act.put, nA, nB, nC])
    clear hHeld
    refine hK.out _ _ ?_ (fun hHeld => ?_)
    ·exact ⟨⟨HS.out.a, HS.out.b⟩, ⟨HS.out.x, HS.out.y⟩, ⟨HS.out.d, HS.out.e⟩, EK.out ▸ HS.out.d.cell (by decide), HS.out.c1, HS.out.c2⟩
    clear hK K
    (try simp only [Act.put, nA, nB, nC])
    refine tx [14, 15, 22, 33] 13 (v := ?_) ?_ ?_
    rotate_left
    ·(intro wx hSw; refine Eq.trans (run_op_neqD (.tmp 142) (.tmp 143) (by rfl) (by rfl) (by rfl)) ?_; with_reducible rfl)
    (try simp only [Act.put, nA, nB, nC])
    refine tx [15, 22, 33] 14 (v := ?_) ?_ ?_
    rotate_left
    ·(intro wx hSw; (try dsimp only at hSw); go_simp; (try with_reducible rfl))
    (try simp only [Act.put, nA, nB, nC])
    refine tx [22, 33] 15 (v := ?_) ?_ ?_
    rotate_left
    ·(intro wx hSw; (try dsimp only at hSw); go_simp; (try with_reducible rfl))
    (try simp only [Act.put, nA, nB, nC])
    refine tx [17, 20, 21, 22, 33] 16 (v := ?_) ?_ ?_
    rotate_left
    ·(intro wx hSw; (try dsimp only at hSw); go_simp; (try with_reducible rfl))
    (try simp only [Act.put, nA, nB, nC])
    refine tx [20, 21, 22, 33] 17 (v := ?_) ?_ ?_
    rotate_left
    ·(intro wx hSw; have q := hSw.2.2.2.1; go_simp; (try with_reducible rfl))
    (try simp only [Act.put, nA, nB, nC])
    refine tx [19, 20, 21, 22, 33] 18 (v := ?_) ?_ ?_
    rotate_left
    ·(intro wx hSw; (try dsimp only at hSw); go_simp; (try with_reducible rfl))
    (try simp only [Act.put, nA, nB, nC])
    refine tx [20, 21, 22, 33] 19 (v := ?_) ?_ ?_
    rotate_left
    ·(intro wx hSw; (try dsimp only at hSw); go_simp; (try with_reducible rfl))
    (try simp only [Act.put, nA, nB, nC])
    refine tx [21, 22, 33] 20 (v := ?_) ?_ ?_
    rotate_left
    ·(intro wx hSw; (try dsimp only at hSw); go_simp; (try with_reducible rfl))
    (try simp only [Act.put, nA, nB, nC])
    refine tx [22, 33] 21 (v := ?_) ?_ ?_
    rotate_left
    ·(intro wx hSw; (try dsimp only at hSw); go_simp; (try with_reducible rfl))
    (try simp only [Act.put, nA, nB, nC])
    refine tk 22 ?_
    (try simp only [Act.put, nA, nB, nC])
    refine tx [24, 25, 26, 32, 33] 23 (v := ?_) ?_ ?_
    rotate_left
    ·(intro wx hSw; (try dsimp only at hSw); go_simp; (try with_reducible rfl))
    (try simp only [Act.put, nA, nB, nC])
    refine tx [25, 26, 32, 33] 24 (v := ?_) ?_ ?_
    rotate_left
    ·(intro wx hSw; (try dsimp only at hSw); go_simp; (try with_reducible rfl))
    (try simp only [Act.put, nA, nB, nC])
    refine tx [26, 32, 33] 25 (v := ?_) ?_ ?_
    rotate_left
    ·(intro wx hSw; (try dsimp only at hSw); go_simp; (try with_reducible rfl))
    (try simp only [Act.put, nA, nB, nC])
    refine tx [32, 33] 26 (v := ?_) ?_ ?_
    rotate_left
    ·(intro wx hSw; have q := hSw.2.2.2.2.1; go_simp; (try with_reducible rfl))
    (try simp only [Act.put, nA, nB, nC])
    refine tx [28, 29, 30, 31, 32, 33] 27 (v := ?_) ?_ ?_
    rotate_left
    ·(intro wx hSw; (try dsimp only at hSw); go_simp; (try with_reducible rfl))
    (try simp only [Act.put, nA, nB, nC])
    refine tx [29, 30, 31, 32, 33] 28 (v := ?_) ?_ ?_
    rotate_left
    ·(intro wx hSw; (try dsimp only at hSw); go_simp; (try with_reducible rfl))
    (try simp only [Act.put, nA, nB, nC])
    refine tx [30, 31, 32, 33] 29 (v := ?_) ?_ ?_
    rotate_left
    ·(intro wx hSw; (try dsimp only at hSw); go_simp; (try with_reducible rfl))
    (try simp only [Act.put, nA, nB, nC])
    refine tx [31, 32, 33] 30 (v := ?_) ?_ ?_
    rotate_left
    ·(intro wx hSw; (try dsimp only at hSw); go_simp; (try with_reducible rfl))
    (try simp only [Act.put, nA, nB, nC])
    refine tx [32, 33] 31 (v := ?_) ?_ ?_
    rotate_left
    ·(intro wx hSw; have q := hSw.2.2.2.2.2; go_simp; (try with_reducible rfl))
    (try simp only [Act.put, nA, nB, nC])
    refine tk 32 ?_
    (try simp only [Act.put, nA, nB, nC])
    refine wpAnyM_one 33 rfl (by kernel_rfl) (fun K hK => ?_)
    go_simp
    refine hK.out _ _ (.inl (by kernel_rfl)) (fun _ => ?_)
    clear hK K
    (try simp only [Act.put, nA, nB, nC])
    refine wpAnyM_done (by kernel_rfl) ?_ _
    go_wp2_with fail
    go_roundw
    case rel => exact ⟨3, by omega, by go_num, Lib.hid HS.out.bs⟩
    case measure => simp [intOf]
   ·rw [show ((3 : Nat) : Int) = 3 from rfl]
    have CO0 := fun (x : World) h1 h2 => hgt_any ⟨bc, 0, none⟩ false S P (T 2) v x h1 h2
    have CR0 := fun (x : World) h1 h2 => rhgt_any ⟨rc, 0, none⟩ false S P (T 2) v x h1 h2
    obtain ⟨AV, hA⟩ : ∃ x, jpS S 9 (fun _ => T 2) 1 = x := ⟨_, rfl⟩
    obtain ⟨XV, hX⟩ : ∃ x, stepF P (rtF 9 1) (rtQ 9 (fun _ => v) 1) = x := ⟨_, rfl⟩
    obtain ⟨H, hH⟩ : ∃ x, (jpH false S 9 (fun _ => T 2) 1 || orB (rtB 9 (fun _ => v)) 1 || stepH P (rtF 9 1) (rtQ 9 (fun _ => v) 1)) = x := ⟨_, rfl⟩
    obtain ⟨DV, hD⟩ : ∃ x, midF (tdF dl0 4) 9 1 (mvD (keepF S) 9 (fun _ => T 2)) = x := ⟨_, rfl⟩
    obtain ⟨EV, hE⟩ : ∃ x, midF dl0 9 1 (mvD (keepF S) 9 (fun _ => T 2)) = x := ⟨_, rfl⟩
    simp only [hA, hX, hH, hD] at CO0
    simp only [hA, hX, hH, hE] at CR0
    have CO := Lib.hid CO0
    have CR := Lib.hid CR0
    clear CO0 CR0
    have E10 := Lib.hid (show arrv 10 (fun i => DV (0 + i)) = arrv 10 EV by rw [← hD, ← hE]; exact mid_E 4 9 1 (mvD (keepF S) 9 (fun _ => T 2)))
    have EK := Lib.hid (show DV 10 = 4 by rw [← hD]; exact mid_K 4 9 1 (mvD (keepF S) 9 (fun _ => T 2)) (by omega))
    clear hA hX hH hD hE
    go_upto_region 15 with fail
    have P0 := HS.out.s
    have P1 := HS.out.p
    have t2 := HS.out.t.cell (i := 2) (by decide)
    refine wp_region_lit ?_
    refine tv ?_
    (try simp only [Act.put, nA, nB, nC])
    refine wpList_val (v := ?_) rfl ?_ ?_
    rotate_left
    ·refine Eq.trans (run_load_row 23 (.tmp 5) (by rfl) (w.heap.size) (by rfl) _ _ _ _ (P0) Tryz.underlying23 rfl (ist.trans (by rw [arrv_size]))) ?_; with_reducible rfl
    (try simp only [Act.put, nA, nB, nC])
    refine wpList_val (v := ?_) rfl ?_ ?_
    rotate_left
    ·refine Eq.trans (run_load_row 26 (.tmp 6) (by rfl) (w.heap.size + 1) (by rfl) _ _ _ _ (P1) Tryz.underlying26 rfl (icov.trans (by rw [arrv_size]))) ?_; with_reducible rfl
    (try simp only [Act.put, nA, nB, nC])
    refine tv ?_
    (try simp only [Act.put, nA, nB, nC])
    refine wpList_val (v := ?_) rfl ?_ ?_
    rotate_left
    ·(go_simp; (try with_reducible rfl))
    (try simp only [Act.put, nA, nB, nC])
    refine tv ?_
    (try simp only [Act.put, nA, nB, nC])
    refine wpList_step (fun K hK => ?_)
    go_simp
    clear P0 P1 t2; (refine (CO.out _ HS.out.c1 HS.out.f1).mono ?_); rintro e w2 ⟨rfl, hu⟩; have HS2 := Lib.hid (HS.out.updB hu); clear HS hu; have HS := HS2; clear HS2; have Q0 := HS.out.a; have Q1 := (show Blk (w2.setRow ab (arrv 24 AV)) xb 26 300 _ from HS.out.x.setRow_other _ (by have := HS.out.o; omega)); have Q2 := (show Blk ((w2.setRow ab (arrv 24 AV)).setRow xb (arrv 300 XV)) db 42 11 _ from (HS.out.d.setRow_other _ (by have := HS.out.o; omega)).setRow_other _ (by have := HS.out.o; omega))
    (try dsimp only)
    (try simp only [Act.put, nA, nB, nC])
    refine hK _ _ ?_
    clear hK K
    refine tv ?_
    (try simp only [Act.put, nA, nB, nC])
    refine tv ?_
    (try simp only [Act.put, nA, nB, nC])
    refine tv ?_
    (try simp only [Act.put, nA, nB, nC])
    refine tv ?_
    (try simp only [Act.put, nA, nB, nC])
    refine wpList_done (w' := ?_) rfl ?_ ?_
    rotate_left
    ·refine Eq.trans (run_store_row 23 (.tmp 14) (.tmp 45) (by rfl) (ab) (by rfl) (by rfl) (Q0) (ist.trans rfl)) ?_; with_reducible rfl
    (try simp only [Act.put, nA, nB, nC])
    refine wpList_done (w' := ?_) rfl ?_ ?_
    rotate_left
    ·(refine Eq.trans (run_store_row 26 (.tmp 16) (.tmp 46) (by rfl) xb (by rfl) (by rfl) Q1 (icov.trans rfl)) ?_; with_reducible rfl)
    (try simp only [Act.put, nA, nB, nC])
    refine wpList_done (w' := ?_) rfl ?_ ?_
    rotate_left
    ·(refine Eq.trans (run_store_row 42 (.tmp 18) (.tmp 47) (by rfl) db (by rfl) (by rfl) Q2 (itd.trans rfl)) ?_; with_reducible rfl)
    (try simp only [Act.put, nA, nB, nC])
    refine wpList_nil ?_
    have HS2 := Lib.hid (((HS.out.set_a AV).set_x XV).set_d DV)
    clear HS Q0 Q1 Q2
    have HS := HS2
    clear HS2
    generalize ((w2.setRow ab (arrv 24 AV)).setRow xb (arrv 300 XV)).setRow db (arrv 11 DV) = W2 at *
    go_upto_region 16 with fail
    have P0 := HS.out.s
    have P1 := HS.out.p
    have t2 := HS.out.t.cell (i := 2) (by decide)
    refine wp_region_lit ?_
    refine tv ?_
    (try simp only [Act.put, nA, nB, nC])
    refine wpList_val (v := ?_) rfl ?_ ?_
    rotate_left
    ·refine Eq.trans (run_load_row 23 (.tmp 5) (by rfl) (w.heap.size) (by rfl) _ _ _ _ (P0) Tryz.underlying23 rfl (ist.trans (by rw [arrv_size]))) ?_; with_reducible rfl
    (try simp only [Act.put, nA, nB, nC])
    refine wpList_val (v := ?_) rfl ?_ ?_
    rotate_left
    ·refine Eq.trans (run_load_row 26 (.tmp 6) (by rfl) (w.heap.size + 1) (by rfl) _ _ _ _ (P1) Tryz.underlying26 rfl (icov.trans (by rw [arrv_size]))) ?_; with_reducible rfl
    (try simp only [Act.put, nA, nB, nC])
    refine tv ?_
    (try simp only [Act.put, nA, nB, nC])
    refine wpList_val (v := ?_) rfl ?_ ?_
    rotate_left
    ·(go_simp; (try with_reducible rfl))
    (try simp only [Act.put, nA, nB, nC])
    refine tv ?_
    (try simp only [Act.put, nA, nB, nC])
    refine wpList_step (fun K hK => ?_)
    go_simp
    clear P0 P1 t2; (refine (CR.out _ HS.out.c2 HS.out.f2).mono ?_); rintro e w3 ⟨rfl, hu⟩; have HS2 := Lib.hid (HS.out.updR hu); clear HS hu; have HS := HS2; clear HS2; have Q0 := HS.out.b; have Q1 := (show Blk (w3.setRow bb (arrv 24 AV)) yb 26 300 _ from HS.out.y.setRow_other _ (by have := HS.out.o; omega)); have Q2 := (show Blk ((w3.setRow bb (arrv 24 AV)).setRow yb (arrv 300 XV)) eb 46 10 _ from (HS.out.e.setRow_other _ (by have := HS.out.o; omega)).setRow_other _ (by have := HS.out.o; omega))
    (try dsimp only)
    (try simp only [Act.put, nA, nB, nC])
    refine hK _ _ ?_
    clear hK K
    refine tv ?_
    (try simp only [Act.put, nA, nB, nC])
    refine tv ?_
    (try simp only [Act.put, nA, nB, nC])
    refine tv ?_
    (try simp only [Act.put, nA, nB, nC])
    refine tv ?_
    (try simp only [Act.put, nA, nB, nC])
    refine wpList_done (w' := ?_) rfl ?_ ?_
    rotate_left
    ·refine Eq.trans (run_store_row 23 (.tmp 15) (.tmp 56) (by rfl) (bb) (by rfl) (by rfl) (Q0) (ist.trans rfl)) ?_; with_reducible rfl
    (try simp only [Act.put, nA, nB, nC])
    refine wpList_done (w' := ?_) rfl ?_ ?_
    rotate_left
    ·(refine Eq.trans (run_store_row 26 (.tmp 17) (.tmp 57) (by rfl) yb (by rfl) (by rfl) Q1 (icov.trans rfl)) ?_; with_reducible rfl)
    (try simp only [Act.put, nA, nB, nC])
    refine wpList_done (w' := ?_) rfl ?_ ?_
    rotate_left
    ·(refine Eq.trans (run_store_row 46 (.tmp 19) (.tmp 58) (by rfl) eb (by rfl) (by rfl) Q2 (irdl.trans rfl)) ?_; with_reducible rfl)
    (try simp only [Act.put, nA, nB, nC])
    refine wpList_nil ?_
    have HS2 := Lib.hid (((HS.out.set_b AV).set_y XV).set_e EV)
    clear HS Q0 Q1 Q2
    have HS := HS2
    clear HS2
    generalize ((w3.setRow bb (arrv 24 AV)).setRow yb (arrv 300 XV)).setRow eb (arrv 10 EV) = W3 at *
    clear CO CR
    go_upto_region 26 with fail
    have HS2 := Lib.hid HS.out.drew
    clear HS
    have HS := HS2
    clear HS2
    have hbb : (H != H) = false := by simp
    (try simp only [Act.put])
    refine wp_region_M (fun w' => (Blk w' ab 23 24 AV ∧ Blk w' bb 23 24 AV) ∧ (Blk w' xb 26 300 XV ∧ Blk w' yb 26 300 XV) ∧ (Blk w' db 42 11 DV ∧ Blk w' eb 46 10 EV) ∧ w'.cell? ⟨db, 10, none⟩ = some (.int .i64 4) ∧ w'.cell? ⟨bc, 0, none⟩ = some (.bool H) ∧ w'.cell? ⟨rc, 0, none⟩ = some (.bool H)) 33 (by kernel_rfl) ?_ (fun hHeld => ?_)
    ·exact ⟨⟨HS.out.a, HS.out.b⟩, ⟨HS.out.x, HS.out.y⟩, ⟨HS.out.d, HS.out.e⟩, EK.out ▸ HS.out.d.cell (by decide), HS.out.c1, HS.out.c2⟩
    refine tx [2, 3, 8, 11, 15, 22, 33] 0 (v := ?_) ?_ ?_
    rotate_left
    ·(intro wx hSw; refine Eq.trans (run_load_row 23 (.tmp 14) (by rfl) (ab) (by rfl) _ _ _ _ (hSw.1.1) Tryz.underlying23 rfl (ist.trans (by rw [arrv_size]))) ?_; with_reducible rfl)
    (try simp only [Act.put, nA, nB, nC])
    refine tx [2, 3, 8, 11, 15, 22, 33] 1 (v := ?_) ?_ ?_
    rotate_left
    ·(intro wx hSw; refine Eq.trans (run_load_row 23 (.tmp 15) (by rfl) (bb) (by rfl) _ _ _ _ (hSw.1.2) Tryz.underlying23 rfl (ist.trans (by rw [arrv_size]))) ?_; with_reducible rfl)
    (try simp only [Act.put, nA, nB, nC])
    refine tx [3, 8, 11, 15, 22, 33] 2 (v := ?_) ?_ ?_
    rotate_left
    ·(intro wx hSw; refine Eq.trans (run_op_neqS (.tmp 131) (.tmp 132) (by rfl) (by rfl) (by rfl)) ?_; with_reducible rfl)
    (try simp only [Act.put, nA, nB, nC])
    refine tx [8, 11, 15, 22, 33] 3 (v := ?_) ?_ ?_
    rotate_left
    ·(intro wx hSw; (try dsimp only at hSw); go_simp; (try with_reducible rfl))
    (try simp only [Act.put, nA, nB, nC])
    refine tx [6, 7, 8, 11, 15, 22, 33] 4 (v := ?_) ?_ ?_
    rotate_left
    ·(intro wx hSw; refine Eq.trans (run_load_row 26 (.tmp 16) (by rfl) (xb) (by rfl) _ _ _ _ (hSw.2.1.1) Tryz.underlying26 rfl (icov.trans (by rw [arrv_size]))) ?_; with_reducible rfl)
    (try simp only [Act.put, nA, nB, nC])
    refine tx [6, 7, 8, 11, 15, 22, 33] 5 (v := ?_) ?_ ?_
    rotate_left
    ·(intro wx hSw; refine Eq.trans (run_load_row 26 (.tmp 17) (by rfl) (yb) (by rfl) _ _ _ _ (hSw.2.1.2) Tryz.underlying26 rfl (icov.trans (by rw [arrv_size]))) ?_; with_reducible rfl)
    (try simp only [Act.put, nA, nB, nC])
    refine tx [7, 8, 11, 15, 22, 33] 6 (v := ?_) ?_ ?_
    rotate_left
    ·(intro wx hSw; refine Eq.trans (run_op_neqC (.tmp 135) (.tmp 136) (by rfl) (by rfl) (by rfl)) ?_; with_reducible rfl)
    (try simp only [Act.put, nA, nB, nC])
    refine tx [8, 11, 15, 22, 33] 7 (v := ?_) ?_ ?_
    rotate_left
    ·(intro wx hSw; (try dsimp only at hSw); go_simp; (try with_reducible rfl))
    (try simp only [Act.put, nA, nB, nC])
    refine tx [11, 15, 22, 33] 8 (v := ?_) ?_ ?_
    rotate_left
    ·(intro wx hSw; (try dsimp only at hSw); go_simp; (try with_reducible rfl))
    (try simp only [Act.put, nA, nB, nC])
    refine tx [10, 11, 15, 22, 33] 9 (v := ?_) ?_ ?_
    rotate_left
    ·(intro wx hSw; (try dsimp only at hSw); go_simp; (try with_reducible rfl))
    (try simp only [Act.put, nA, nB, nC])
    refine tx [11, 15, 22, 33] 10 (v := ?_) ?_ ?_
    rotate_left
    ·(intro wx hSw; refine Eq.trans (run_load_sub 40 (.tmp 140) (by rfl) db 0 10 (by rfl) hSw.2.2.1.1 (by decide) _ Tryz.underlying40 rfl idl0) ?_; rw [E10.out])
    (try simp only [Act.put, nA, nB, nC])
    refine tx [13, 14, 15, 22, 33] 12 (v := ?_) ?_ ?_
    rotate_left
    ·(intro wx hSw; refine Eq.trans (run_load_row 46 (.tmp 19) (by rfl) eb (by rfl) _ _ _ _ hSw.2.2.1.2 Tryz.underlying46 rfl (irdl.trans (by rw [arrv_size]))) ?_; with_reducible rfl)
    (try simp only [Act.put, nA, nB, nC])
    refine wpAnyM_oneS 11 rfl (by kernel_rfl) (fun K hK => ?_)
    go_simp
    (refine (own26_any EV _).mono ?_); rintro e w4 ⟨rfl, hb⟩; have HS2 := Lib.hid (HS.out.down hb); clear HS hb; have HS := HS2; clear HS2
    (try dsimp only)
    (try simp only [Act.put, nA, nB, nC])
    clear hHeld
    refine hK.out _ _ ?_ (fun hHeld => ?_)
    ·exact ⟨⟨HS.out.a, HS.out.b⟩, ⟨HS.out.x, HS.out.y⟩, ⟨HS.out.d, HS.out.e⟩, EK.out ▸ HS.out.d.cell (by decide), HS.out.c1, HS.out.c2⟩
    clear hK K
    (try simp only [Act.put, nA, nB, nC])
    refine tx [14, 15, 22, 33] 13 (v := ?_) ?_ ?_
    rotate_left
    ·(intro wx hSw; refine Eq.trans (run_op_neqD (.tmp 142) (.tmp 143) (by rfl) (by rfl) (by rfl)) ?_; with_reducible rfl)
    (try simp only [Act.put, nA, nB, nC])
    refine tx [15, 22, 33] 14 (v := ?_) ?_ ?_
    rotate_left
    ·(intro wx hSw; (try dsimp only at hSw); go_simp; (try with_reducible rfl))
    (try simp only [Act.put, nA, nB, nC])
    refine tx [22, 33] 15 (v := ?_) ?_ ?_
    rotate_left
    ·(intro wx hSw; (try dsimp only at hSw); go_simp; (try with_reducible rfl))
    (try simp only [Act.put, nA, nB, nC])
    refine tx [17, 20, 21, 22, 33] 16 (v := ?_) ?_ ?_
    rotate_left
    ·(intro wx hSw; (try dsimp only at hSw); go_simp; (try with_reducible rfl))
    (try simp only [Act.put, nA, nB, nC])
    refine tx [20, 21, 22, 33] 17 (v := ?_) ?_ ?_
    rotate_left
    ·(intro wx hSw; have q := hSw.2.2.2.1; go_simp; (try with_reducible rfl))
    (try simp only [Act.put, nA, nB, nC])
    refine tx [19, 20, 21, 22, 33] 18 (v := ?_) ?_ ?_
    rotate_left
    ·(intro wx hSw; (try dsimp only at hSw); go_simp; (try with_reducible rfl))
    (try simp only [Act.put, nA, nB, nC])
    refine tx [20, 21, 22, 33] 19 (v := ?_) ?_ ?_
    rotate_left
    ·(intro wx hSw; (try dsimp only at hSw); go_simp; (try with_reducible rfl))
    (try simp only [Act.put, nA, nB, nC])
    refine tx [21, 22, 33] 20 (v := ?_) ?_ ?_
    rotate_left
    ·(intro wx hSw; (try dsimp only at hSw); go_simp; (try with_reducible rfl))
    (try simp only [Act.put, nA, nB, nC])
    refine tx [22, 33] 21 (v := ?_) ?_ ?_
    rotate_left
    ·(intro wx hSw; (try dsimp only at hSw); go_simp; (try with_reducible rfl))
    (try simp only [Act.put, nA, nB, nC])
    refine tk 22 ?_
    (try simp only [Act.put, nA, nB, nC])
    refine tx [24, 25, 26, 32, 33] 23 (v := ?_) ?_ ?_
    rotate_left
    ·(intro wx hSw; (try dsimp only at hSw); go_simp; (try with_reducible rfl))
    (try simp only [Act.put, nA, nB, nC])
    refine tx [25, 26, 32, 33] 24 (v := ?_) ?_ ?_
    rotate_left
    ·(intro wx hSw; (try dsimp only at hSw); go_simp; (try with_reducible rfl))
    (try simp only [Act.put, nA, nB, nC])
    refine tx [26, 32, 33] 25 (v := ?_) ?_ ?_
    rotate_left
    ·(intro wx hSw; (try dsimp only at hSw); go_simp; (try with_reducible rfl))
    (try simp only [Act.put, nA, nB, nC])
    refine tx [32, 33] 26 (v := ?_) ?_ ?_
    rotate_left
    ·(intro wx hSw; have q := hSw.2.2.2.2.1; go_simp; (try with_reducible rfl))
    (try simp only [Act.put, nA, nB, nC])
    refine tx [28, 29, 30, 31, 32, 33] 27 (v := ?_) ?_ ?_
    rotate_left
    ·(intro wx hSw; (try dsimp only at hSw); go_simp; (try with_reducible rfl))
    (try simp only [Act.put, nA, nB, nC])
    refine tx [29, 30, 31, 32, 33] 28 (v := ?_) ?_ ?_
    rotate_left
    ·(intro wx hSw; (try dsimp only at hSw); go_simp; (try with_reducible rfl))
    (try simp only [Act.put, nA, nB, nC])
    refine tx [30, 31, 32, 33] 29 (v := ?_) ?_ ?_
    rotate_left
    ·(intro wx hSw; (try dsimp only at hSw); go_simp; (try with_reducible rfl))
    (try simp only [Act.put, nA, nB, nC])
    refine tx [31, 32, 33] 30 (v := ?_) ?_ ?_
    rotate_left
    ·(intro wx hSw; (try dsimp only at hSw); go_simp; (try with_reducible rfl))
    (try simp only [Act.put, nA, nB, nC])
    refine tx [32, 33] 31 (v := ?_) ?_ ?_
    rotate_left
    ·(intro wx hSw; have q := hSw.2.2.2.2.2; go_simp; (try with_reducible rfl))
    (try simp only [Act.put, nA, nB, nC])
    refine tk 32 ?_
    (try simp only [Act.put, nA, nB, nC])
    refine wpAnyM_one 33 rfl (by kernel_rfl) (fun K hK => ?_)
    go_simp
    refine hK.out _ _ (.inl (by kernel_rfl)) (fun _ => ?_)
    clear hK K
    (try simp only [Act.put, nA, nB, nC])
    refine wpAnyM_done (by kernel_rfl) ?_ _
    go_wp2_with fail
    go_roundw
    case rel => exact ⟨4, by omega, by go_num, Lib.hid HS.out.bs⟩
    case measure => simp [intOf]
  ·obtain rfl : k = 4 := by omega
   rw [show ((4 : Nat) : Int) = 4 from rfl]
   go_wp2_with fail
   go_ret
   exact ⟨rfl, R.out.below⟩
end Go.Proofs.YtgfklheepkgedaaGreat
