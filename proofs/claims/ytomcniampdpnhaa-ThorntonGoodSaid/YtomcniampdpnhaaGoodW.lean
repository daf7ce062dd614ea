/- The walk of the law ThorntonGood. -/
import Derived.Test.YtomcniampdpnhaaAwake
import Derived.Test.YtomcniampdpnhaaStepG
namespace Go.Proofs.Ytomcniampdpnhaa
open Go.RowKit
set_option maxRecDepth 100000
theorem good_long (f F q : Nat → Int) (p : Option Addr) (n cp : Nat) (w : World) (hn : 40 < n) :
    Calls Try.prog 3 #[.agg (arrv 300 f), .agg (arrv 576 F), .agg (arrv 24 q), .slice p n cp] w fun e w' => e = .returned (.bool true) ∧ Below w.heap.size w w' := by
  have d1 : decide ((40 : Int) < (n : Int)) = true := by simp; omega
  go_enter Try.func3, Try.ntmps3
  go_wp2_with (go_at_call 6; (refine (awake_any _).mono ?_); rintro e w1 ⟨rfl, hb1⟩)
  go_ret
  exact ⟨rfl, Below.after (show Below w.heap.size w (((w.alloc (.cells (arrv 300 f) 25)).alloc (.cells (arrv 576 F) 27)).alloc (.cells (arrv 24 q) 23)) by (repeat (first | with_reducible exact Below.refl _ _ | with_reducible apply Below.drew | (with_reducible refine below_drewN ?_ _) | (with_reducible refine Below.alloc ?_ (by (try simp) <;> omega) _) | (with_reducible refine Below.setCell ?_ (by (try simp) <;> omega) _)))) hb1⟩
set_option maxHeartbeats 4000000 in
theorem good_short (f F q : Nat → Int) (p : Option Addr) (n cp : Nat) (L : Nat → Int) (w : World) (hn : n ≤ 40) (hL : Slc w p n L) :
    Calls Try.prog 3 #[.agg (arrv 300 f), .agg (arrv 576 F), .agg (arrv 24 q), .slice p n cp] w fun e w' => e = .returned (.bool true) ∧ Below w.heap.size w w' := by
  have d1 : decide ((40 : Int) < (n : Int)) = false := by simp; omega
  have HL := Lib.hid hL
  clear hL hn
  go_enter Try.func3, Try.ntmps3
  go_upto_region 6 with (go_at_call 6; (refine (awake_any _).mono ?_); rintro e w1 ⟨rfl, hb1⟩; have HB1 := Lib.hid hb1; clear hb1)
  have A0 : Below w.heap.size w (((w.alloc (.cells (arrv 300 f) 25)).alloc (.cells (arrv 576 F) 27)).alloc (.cells (arrv 24 q) 23)) := by (repeat (first | with_reducible exact Below.refl _ _ | with_reducible apply Below.drew | (with_reducible refine below_drewN ?_ _) | (with_reducible refine Below.alloc ?_ (by (try simp) <;> omega) _) | (with_reducible refine Below.setCell ?_ (by (try simp) <;> omega) _)))
  have B0 : Blk (((w.alloc (.cells (arrv 300 f) 25)).alloc (.cells (arrv 576 F) 27)).alloc (.cells (arrv 24 q) 23)) w.heap.size 25 300 f := ((Blk.new w _ _ _).alloc _).alloc _
  have B1 : Blk (((w.alloc (.cells (arrv 300 f) 25)).alloc (.cells (arrv 576 F) 27)).alloc (.cells (arrv 24 q) 23)) (w.heap.size + 1) 27 576 F := (Blk.new1 w _ _ _ _).alloc _
  have B2 := blk_new2 w (.cells (arrv 300 f) 25) (.cells (arrv 576 F) 27) 23 24 q
  have A1 := Lib.hid ((Below.after A0 HB1.out).alloc (by have := A0.size; have := HB1.out.size; omega) (.cells #[.bool false] 32))
  have P0 := Lib.hid ((B0.below HB1.out).alloc (.cells #[.bool false] 32))
  have P1 := Lib.hid ((B1.below HB1.out).alloc (.cells #[.bool false] 32))
  have P2 := Lib.hid ((B2.below HB1.out).alloc (.cells #[.bool false] 32))
  have hz1 : w.heap.size + 1 + 1 < w1.heap.size := by have := HB1.out.size; simp at this; omega
  have K0 := Lib.hid (Flg.new w1 false)
  clear A0 B0 B1 B2 HB1
  obtain ⟨w2, hw2⟩ : ∃ x, x = w1.alloc (.cells #[.bool false] 32) := ⟨_, rfl⟩
  rw [← hw2] at A1 P0 P1 P2 K0 ⊢
  clear hw2
  obtain ⟨bc, hbc⟩ : ∃ bc, w1.heap.size = bc := ⟨_, rfl⟩
  rw [hbc] at K0 hz1 ⊢
  clear hbc w1
  have S1 := Lib.hid (step_any ⟨bc, 0, none⟩ false f F q w2 K0.out.cell K0.out.free)
  have L0 := P0.out
  have L1 := P1.out
  have L2 := P2.out
  go_upto_region 7 with (first | (refine wpList_load_row rfl 25 _ rfl w.heap.size rfl 25 _ (0, 0) _ L0 Try.underlying25 rfl (icov.trans (by rw [arrv_size])) ?_) | (refine wpList_load_row rfl 27 _ rfl (w.heap.size + 1) rfl 27 _ (0, 0) _ L1 Try.underlying27 rfl (imat.trans (by rw [arrv_size])) ?_) | (refine wpList_load_row rfl 23 _ rfl (w.heap.size + 1 + 1) rfl 23 _ (0, 0) _ L2 Try.underlying23 rfl (icol.trans (by rw [arrv_size])) ?_) | (go_at_call 7; (refine S1.out.mono ?_); rintro e w3 ⟨rfl, hu3⟩; have HU3 := Lib.hid hu3; have R3 : Blk (w3.alloc (.cells Try.zeroCells25 25)) w3.heap.size 25 300 (fun _ => 0) := (by rw [zcov]; exact Blk.new _ _ _ _); clear hu3) | (refine wpList_store_row rfl 25 _ _ rfl w3.heap.size _ rfl rfl 25 _ R3 (icov.trans (by rw [arrv_size])) (by rw [arrv_size, arrv_size]) (oneCell_arrv _ _) ?_))
  obtain ⟨w4, hw4⟩ : ∃ x, x = ((w3.alloc (.cells Try.zeroCells25 25)).setRow w3.heap.size (arrv 300 (stepF f F q))) := ⟨_, rfl⟩
  rw [← hw4]
  have M4 := Lib.hid (Blk.made zcov (stepF f F q) hw4)
  have hs3 := HU3.out.size
  have hk0 := K0.out.lt
  have A4 := Lib.hid (Below.after (own_upd A1.out (by simp; omega) HU3.out) M4.out.2)
  have P4 := Lib.hid ((P0.out.upd HU3.out (by simp; omega)).below M4.out.2)
  have hz4 : w3.heap.size < w4.heap.size := M4.out.1.lt
  clear hw4 R3 L0 L1 L2 S1 A1 P0 P1 P2 K0 HU3
  obtain ⟨ba, hba⟩ : ∃ ba, w3.heap.size = ba := ⟨_, rfl⟩
  rw [hba] at M4 hs3 hz4 ⊢
  have hza : w.heap.size + 1 + 1 < ba := by omega
  clear hba hk0
  have L4 := M4.out.1
  have G4 := Lib.hid (step_good f F q)
  go_upto_region 9 with (first | (refine wpList_load_row rfl 25 _ rfl ba rfl 25 _ (0, 0) _ L4 Try.underlying25 rfl (icov.trans (by rw [arrv_size])) ?_) | (go_at_call 8; (refine (good_any (stepF f F q) _).mono ?_); rintro e w5 ⟨rfl, hb5⟩; (rw [G4.out]); have HB5 := Lib.hid hb5; clear hb5))
  have A5 := Lib.hid (Below.after A4.out HB5.out)
  have P5 := Lib.hid (P4.out.below HB5.out)
  have hz5 : w4.heap.size ≤ w5.heap.size := HB5.out.size
  clear L4 G4 A4 P4 M4 HB5
  have R6 := blk_new2 w5 (.cells #[.bool false] 32) (.cells #[.bool false] 32) 23 24 (fun _ => 0)
  go_upto_region 11 with fail
  refine wp_region_lit ?_
  refine wpList_val (v := ?_) rfl ?_ ?_
  rotate_left
  · go_simp; rw [zcol]
  (try simp only [Act.put, List.setIfInBounds_toArray, List.set_cons_zero, List.set_cons_succ])
  refine wpList_act (v := ?_) (w' := ?_) rfl ?_ ?_
  rotate_left 2
  · go_simp; rw [zcol]; constructor <;> with_reducible rfl
  (try simp only [Act.put, List.setIfInBounds_toArray, List.set_cons_zero, List.set_cons_succ])
  refine wpList_done (w' := ?_) rfl ?_ ?_
  rotate_left
  · refine Eq.trans (run_store_row 23 (.tmp 13) (.tmp 33) (by rfl) (w5.heap.size + 1 + 1) (by rfl) (by rfl) (R6) (icol.trans rfl)) ?_; with_reducible rfl
  (try simp only [Act.put, List.setIfInBounds_toArray, List.set_cons_zero, List.set_cons_succ])
  refine wpList_nil ?_
  have hP5 := P5.out.lt
  have D0 : Flg (((w5.alloc (.cells #[.bool false] 32)).alloc (.cells #[.bool false] 32)).alloc (.cells (arrv 24 (fun _ => 0)) 23)) w5.heap.size false := ((Flg.new w5 false).alloc _).alloc _
  have D1 : Flg (((w5.alloc (.cells #[.bool false] 32)).alloc (.cells #[.bool false] 32)).alloc (.cells (arrv 24 (fun _ => 0)) 23)) (w5.heap.size + 1) false := by
    have := Flg.new (w5.alloc (.cells #[.bool false] 32)) false
    rw [show (w5.alloc (.cells #[.bool false] 32)).heap.size = w5.heap.size + 1 from by simp] at this
    exact this.alloc _
  have A6 := Lib.hid (below_row (g := w5.heap.size + 1 + 1) (Below.after A5.out (show Below w5.heap.size w5 (((w5.alloc (.cells #[.bool false] 32)).alloc (.cells #[.bool false] 32)).alloc (.cells (arrv 24 (fun _ => 0)) 23)) by (repeat (first | with_reducible exact Below.refl _ _ | with_reducible apply Below.drew | (with_reducible refine below_drewN ?_ _) | (with_reducible refine Below.alloc ?_ (by (try simp) <;> omega) _) | (with_reducible refine Below.setCell ?_ (by (try simp) <;> omega) _))))) (by omega) (arrv 24 (fun _ => 0)))
  have D2 := Lib.hid (D0.row (k := w5.heap.size + 1 + 1) (arrv 24 (fun _ => 0)) (by omega))
  have D3 := Lib.hid (D1.row (k := w5.heap.size + 1 + 1) (arrv 24 (fun _ => 0)) (by omega))
  have P6 := Lib.hid ((((P5.out.alloc (.cells #[.bool false] 32)).alloc (.cells #[.bool false] 32)).alloc (.cells (arrv 24 (fun _ => 0)) 23)).setRow_other (k := w5.heap.size + 1 + 1) (arrv 24 (fun _ => 0)) (by omega))
  have B6 := Lib.hid (R6.setRow (fun _ => 0))
  have hs6 : w5.heap.size + 1 + 1 < ((((w5.alloc (.cells #[.bool false] 32)).alloc (.cells #[.bool false] 32)).alloc (.cells (arrv 24 (fun _ => 0)) 23)).setRow (w5.heap.size + 1 + 1) (arrv 24 (fun _ => 0))).heap.size := B6.out.lt
  obtain ⟨w6, hw6⟩ : ∃ x, x = (((w5.alloc (.cells #[.bool false] 32)).alloc (.cells #[.bool false] 32)).alloc (.cells (arrv 24 (fun _ => 0)) 23)).setRow (w5.heap.size + 1 + 1) (arrv 24 (fun _ => 0)) := ⟨_, rfl⟩
  rw [← hw6] at A6 D2 D3 P6 B6 hs6 ⊢
  clear hw6 D0 D1 R6 A5 P5
  obtain ⟨bd, hbd⟩ : ∃ x, w5.heap.size = x := ⟨_, rfl⟩
  rw [hbd] at D2 D3 B6 hs6 hP5 ⊢
  clear hbd hz5 w5
  have q1 := Lib.hid (show (Try.prog.info? 2).map (·.size) = some 1 by kernel_rfl)
  have q2 := Lib.hid (show w6.heap[bd + 1 + 1]? = some (.cells (arrv 24 (fun _ => 0)).toList.toArray 23 (0, 0)) by rw [Array.toArray_toList]; exact B6.out)
  have q3 := Lib.hid (length_copyL n L)
  have q4 : Hid (0 < (copyL n L).length → some (⟨bd + 1 + 1, 0, none⟩ : Addr) = some ⟨bd + 1 + 1, 0, none⟩ ∧ ∃ ad, p = some ad ∧ ∀ (j : Nat) (v : Value), (copyL n L)[j]? = some v → w6.cell? (ad.add j) = some v) := by
    intro hp
    refine ⟨rfl, ?_⟩
    rw [length_copyL] at hp
    obtain ⟨b, o, rfl, _⟩ := HL.out 0 (by omega)
    refine ⟨_, rfl, fun j v hv => ?_⟩
    obtain ⟨hj, rfl⟩ := copyL_get hv
    obtain ⟨b', o', he, hcell⟩ := HL.out j hj
    injection he with he
    injection he with he1 he2
    subst he1 he2
    have : (⟨b, o, none⟩ : Addr).add j = ⟨b, o + j, none⟩ := by simp [Addr.add]
    rw [this]
    exact (A6.out.cell (World.block_lt_of_cell? _ _ hcell)).trans hcell
  have q5 := Lib.hid (show 0 + (copyL n L).length ≤ (arrv 24 (fun _ => 0)).toList.length by rw [length_copyL]; simp [arrv_size]; omega)
  have q6 := Lib.hid (show ∀ v ∈ copyL n L, v.oneCell' = true from fun v hv => by simp only [copyL, List.mem_map] at hv; obtain ⟨x, _, rfl⟩ := hv; rfl)
  go_upto_region 13 with (refine wpList_copy_splice (o := ⟨some 36, _, _, _, _, _⟩) rfl (.tmp 34) (.tmp 35) 28 28 rfl 2 rfl q1.out (some ⟨bd + 1 + 1, 0, none⟩) p 24 24 n cp rfl rfl (bd + 1 + 1) 0 _ 23 q2.out (copyL n L) q3.out q4.out q5.out q6.out (bd + 1 + 1) w6 (Below.refl _ _) (Nat.le_refl _) ?_; intro w7 HG7 hB7)
  have X2 : Blk w7 (bd + 1 + 1) 23 24 (copyF n L) := by have := HG7.out; rwa [splice_copy] at this
  have A7 := Lib.hid (A6.out.trans (hB7.mono (by omega)))
  have X0 : Blk w7 w.heap.size 25 300 f := (hB7.block _ (by omega)).trans P6.out
  have D4 : Flg w7 bd false := (hB7.block _ (by omega)).trans D2.out
  have D5 : Flg w7 (bd + 1) false := (hB7.block _ (by omega)).trans D3.out
  have hs7 : w6.heap.size ≤ w7.heap.size := hB7.size
  have HL7 := Lib.hid (HL.out.below (w' := w7) A7.out)
  clear q1 q2 q3 q4 q5 q6 HG7 hB7 A6 D2 D3 P6 B6 HL
  have hbd : w.heap.size < bd := hP5
  have hbd7 := D5.lt
  have HX0 := Lib.hid X0
  have HX2 := Lib.hid X2
  have HD4 := Lib.hid D4
  have HD5 := Lib.hid D5
  have WC := Lib.hid (with_any ⟨bd, 0, none⟩ false f p n cp L w7.drew D4.cell D4.free HL7.out)
  have e7 : w7.drew.heap.size = w7.heap.size := rfl
  have SC := Lib.hid (fun (x : World) (k1 : x.cell? ⟨bd + 1, 0, none⟩ = some (.bool false)) (k2 : x.frozen? ⟨bd + 1, 0, none⟩ = false) => step_any ⟨bd + 1, 0, none⟩ false f oneF (copyF n L) x k1 k2)
  obtain ⟨SF, hSF⟩ : ∃ x, stepF f oneF (copyF n L) = x := ⟨_, rfl⟩
  obtain ⟨SH, hSH⟩ : ∃ x, (false || stepH f oneF (copyF n L)) = x := ⟨_, rfl⟩
  rw [hSF, hSH] at WC
  simp only [hSF, hSH] at SC
  clear hSF hSH
  clear X0 X2 D4 D5 HL7
  refine wp_region_M (fun w' => Blk w' w.heap.size 25 300 f ∧ Blk w' (bd + 1 + 1) 23 24 (copyF n L)) 21 (by kernel_rfl) ?_ (fun hHeld => ?_)
  · exact ⟨HX0.out, HX2.out⟩
  refine wpAnyM_take 0 (v := ?_) rfl (by kernel_rfl) (fun _ _ _ h => h) (Or.inl ⟨by rfl, ?_⟩) (by assumption) ?_
  rotate_left
  · (intro wx hSw; (try dsimp only at hSw); go_simp; (try with_reducible rfl))
  (try simp only [Act.put, List.setIfInBounds_toArray, List.set_cons_zero, List.set_cons_succ])
  refine wpAnyM_take 1 (v := ?_) rfl (by kernel_rfl) (fun _ _ _ h => h) (Or.inl ⟨by rfl, ?_⟩) (by assumption) ?_
  rotate_left
  · (intro wx hSw; refine Eq.trans (run_load_row 25 (.tmp 4) (by rfl) (w.heap.size) (by rfl) _ _ _ _ (hSw.1) Try.underlying25 rfl (icov.trans (by rw [arrv_size]))) ?_; with_reducible rfl)
  (try simp only [Act.put, List.setIfInBounds_toArray, List.set_cons_zero, List.set_cons_succ])
  refine wpAnyM_take 2 (v := ?_) rfl (by kernel_rfl) (fun _ _ _ h => h) (Or.inl ⟨by rfl, ?_⟩) (by assumption) ?_
  rotate_left
  · (intro wx hSw; (try dsimp only at hSw); go_simp; (try with_reducible rfl))
  (try simp only [Act.put, List.setIfInBounds_toArray, List.set_cons_zero, List.set_cons_succ])
  refine wpAnyM_take 4 (v := ?_) rfl (by kernel_rfl) (fun _ _ _ h => h) (Or.inl ⟨by rfl, ?_⟩) (by assumption) ?_
  rotate_left
  · (intro wx hSw; (try dsimp only at hSw); go_simp; (try with_reducible rfl))
  (try simp only [Act.put, List.setIfInBounds_toArray, List.set_cons_zero, List.set_cons_succ])
  refine wpAnyM_take 5 (v := ?_) rfl (by kernel_rfl) (fun _ _ _ h => h) (Or.inl ⟨by rfl, ?_⟩) (by assumption) ?_
  rotate_left
  · (intro wx hSw; refine Eq.trans (run_load_row 25 (.tmp 4) (by rfl) (w.heap.size) (by rfl) _ _ _ _ (hSw.1) Try.underlying25 rfl (icov.trans (by rw [arrv_size]))) ?_; with_reducible rfl)
  (try simp only [Act.put, List.setIfInBounds_toArray, List.set_cons_zero, List.set_cons_succ])
  refine wpAnyM_take 7 (v := ?_) rfl (by kernel_rfl) (fun _ _ _ h => h) (Or.inl ⟨by rfl, ?_⟩) (by assumption) ?_
  rotate_left
  · (intro wx hSw; refine Eq.trans (run_load_row 23 (.tmp 13) (by rfl) (bd + 1 + 1) (by rfl) _ _ _ _ (hSw.2) Try.underlying23 rfl (icol.trans (by rw [arrv_size]))) ?_; with_reducible rfl)
  (try simp only [Act.put, List.setIfInBounds_toArray, List.set_cons_zero, List.set_cons_succ])
  refine wpAnyM_oneS 3 rfl (by kernel_rfl) (fun K hK => ?_)
  go_simp
  (refine WC.out.mono ?_); rintro e w8 ⟨rfl, hu8⟩; have K8 := Lib.hid (Flg.hit (show Flg w7.drew bd false from HD4.out) hu8); have K8' := Lib.hid (Flg.upd (show Flg w7.drew (bd + 1) false from HD5.out) hu8 (by first | omega | (simp; done) | (simp; omega))); have Y0 := Blk.upd (show Blk w7.drew w.heap.size 25 300 f from HX0.out) hu8 (by first | omega | (simp; done) | (simp; omega)); have Y2 := Blk.upd (show Blk w7.drew (bd + 1 + 1) 23 24 (copyF n L) from HX2.out) hu8 (by first | omega | (simp; done) | (simp; omega)); have kp := And.intro Y0 Y2; have A8 := Lib.hid (own_upd (Below.drew A7.out) (show w.heap.size ≤ bd by omega) hu8); have hs8 := hu8.size; clear hu8
  (try dsimp only)
  (try simp only [Act.put, List.setIfInBounds_toArray, List.set_cons_zero, List.set_cons_succ])
  clear hHeld
  refine hK.out _ _ ?_ (fun hHeld => ?_)
  · exact kp
  clear hK K
  (try simp only [Act.put, List.setIfInBounds_toArray, List.set_cons_zero, List.set_cons_succ])
  refine wpAnyM_oneS 6 rfl (by kernel_rfl) (fun K hK => ?_)
  go_simp
  (refine (one_any _).mono ?_); rintro e w9 ⟨rfl, hb9⟩; have K9 := Lib.hid (K8.out.below hb9); have K9' := Lib.hid (K8'.out.below hb9); have kp2 := And.intro (kp.1.below hb9) (kp.2.below hb9); have A9 := Lib.hid (Below.after A8.out hb9); have hs9 := hb9.size; clear hb9
  (try dsimp only)
  (try simp only [Act.put, List.setIfInBounds_toArray, List.set_cons_zero, List.set_cons_succ])
  clear hHeld
  refine hK.out _ _ ?_ (fun hHeld => ?_)
  · exact kp2
  clear hK K
  (try simp only [Act.put, List.setIfInBounds_toArray, List.set_cons_zero, List.set_cons_succ])
  refine wpAnyM_oneS 8 rfl (by kernel_rfl) (fun K hK => ?_)
  go_simp
  (refine (SC.out _ K9'.out.cell K9'.out.free).mono ?_); rintro e w10 ⟨rfl, hu10⟩; have KA := Lib.hid (K9.out.upd hu10 (by first | omega | (simp; done) | (simp; omega))); have KB := Lib.hid (K9'.out.hit hu10); have kp3 := And.intro (kp2.1.upd hu10 (by first | omega | (simp; done) | (simp; omega))) (kp2.2.upd hu10 (by first | omega | (simp; done) | (simp; omega))); have A10 := Lib.hid (own_upd A9.out (show w.heap.size ≤ bd + 1 by omega) hu10); clear hu10
  (try dsimp only)
  (try simp only [Act.put, List.setIfInBounds_toArray, List.set_cons_zero, List.set_cons_succ])
  clear hHeld
  refine hK.out _ _ ?_ (fun hHeld => ?_)
  · exact kp3
  clear hK K
  (try simp only [Act.put, List.setIfInBounds_toArray, List.set_cons_zero, List.set_cons_succ])
  refine wpAnyM_weaken (fun w' => (Blk w' w.heap.size 25 300 f ∧ Blk w' (bd + 1 + 1) 23 24 (copyF n L)) ∧ (Flg w' bd SH ∧ Flg w' (bd + 1) SH)) (fun _ h => h.1) ?_; have hHeld2 : (fun w' => (Blk w' w.heap.size 25 300 f ∧ Blk w' (bd + 1 + 1) 23 24 (copyF n L)) ∧ (Flg w' bd SH ∧ Flg w' (bd + 1) SH)) w10 := ⟨kp3, KA.out, KB.out⟩; clear hHeld
  refine wpAnyM_take 9 (v := ?_) rfl (by kernel_rfl) (fun _ _ _ h => h) (Or.inl ⟨by rfl, ?_⟩) (by assumption) ?_
  rotate_left
  · (intro wx hSw; refine Eq.trans (run_op_eqlCov (.tmp 40) (.tmp 45) (by rfl) (f := SF) (g := SF) (by rfl) (by rfl) (covB_self _)) ?_; with_reducible rfl)
  (try simp only [Act.put, List.setIfInBounds_toArray, List.set_cons_zero, List.set_cons_succ])
  refine wpAnyM_take 10 (v := ?_) rfl (by kernel_rfl) (fun _ _ _ h => h) (Or.inl ⟨by rfl, ?_⟩) (by assumption) ?_
  rotate_left
  · (intro wx hSw; (try dsimp only at hSw); go_simp; (try with_reducible rfl))
  (try simp only [Act.put, List.setIfInBounds_toArray, List.set_cons_zero, List.set_cons_succ])
  first | (refine wpAnyM_take 11 (v := ?_) rfl (by kernel_rfl) (fun _ _ _ h => h) (Or.inl ⟨by rfl, ?_⟩) (by assumption) ?_; rotate_left; focus ((intro wx hSw; (try dsimp only at hSw); go_simp; (try with_reducible rfl)))) | (refine wpAnyM_take 11 rfl (by kernel_rfl) (fun _ _ _ h => h) (Or.inr ⟨by rfl, rfl⟩) (by assumption) ?_)
  (try simp only [Act.put, List.setIfInBounds_toArray, List.set_cons_zero, List.set_cons_succ])
  first | (refine wpAnyM_take 12 (v := ?_) rfl (by kernel_rfl) (fun _ _ _ h => h) (Or.inl ⟨by rfl, ?_⟩) (by assumption) ?_; rotate_left; focus ((intro wx hSw; (try dsimp only at hSw); go_simp; (try with_reducible rfl)))) | (refine wpAnyM_take 12 rfl (by kernel_rfl) (fun _ _ _ h => h) (Or.inr ⟨by rfl, rfl⟩) (by assumption) ?_)
  (try simp only [Act.put, List.setIfInBounds_toArray, List.set_cons_zero, List.set_cons_succ])
  first | (refine wpAnyM_take 13 (v := ?_) rfl (by kernel_rfl) (fun _ _ _ h => h) (Or.inl ⟨by rfl, ?_⟩) (by assumption) ?_; rotate_left; focus ((intro wx hSw; (try dsimp only at hSw); go_simp; (try with_reducible rfl)))) | (refine wpAnyM_take 13 rfl (by kernel_rfl) (fun _ _ _ h => h) (Or.inr ⟨by rfl, rfl⟩) (by assumption) ?_)
  (try simp only [Act.put, List.setIfInBounds_toArray, List.set_cons_zero, List.set_cons_succ])
  first | (refine wpAnyM_take 14 (v := ?_) rfl (by kernel_rfl) (fun _ _ _ h => h) (Or.inl ⟨by rfl, ?_⟩) (by assumption) ?_; rotate_left; focus ((intro wx hSw; have hq := hSw.2.1.cell; go_simp; (try with_reducible rfl)))) | (refine wpAnyM_take 14 rfl (by kernel_rfl) (fun _ _ _ h => h) (Or.inr ⟨by rfl, rfl⟩) (by assumption) ?_)
  (try simp only [Act.put, List.setIfInBounds_toArray, List.set_cons_zero, List.set_cons_succ])
  first | (refine wpAnyM_take 15 (v := ?_) rfl (by kernel_rfl) (fun _ _ _ h => h) (Or.inl ⟨by rfl, ?_⟩) (by assumption) ?_; rotate_left; focus ((intro wx hSw; (try dsimp only at hSw); go_simp; (try with_reducible rfl)))) | (refine wpAnyM_take 15 rfl (by kernel_rfl) (fun _ _ _ h => h) (Or.inr ⟨by rfl, rfl⟩) (by assumption) ?_)
  (try simp only [Act.put, List.setIfInBounds_toArray, List.set_cons_zero, List.set_cons_succ])
  first | (refine wpAnyM_take 16 (v := ?_) rfl (by kernel_rfl) (fun _ _ _ h => h) (Or.inl ⟨by rfl, ?_⟩) (by assumption) ?_; rotate_left; focus ((intro wx hSw; (try dsimp only at hSw); go_simp; (try with_reducible rfl)))) | (refine wpAnyM_take 16 rfl (by kernel_rfl) (fun _ _ _ h => h) (Or.inr ⟨by rfl, rfl⟩) (by assumption) ?_)
  (try simp only [Act.put, List.setIfInBounds_toArray, List.set_cons_zero, List.set_cons_succ])
  first | (refine wpAnyM_take 17 (v := ?_) rfl (by kernel_rfl) (fun _ _ _ h => h) (Or.inl ⟨by rfl, ?_⟩) (by assumption) ?_; rotate_left; focus ((intro wx hSw; (try dsimp only at hSw); go_simp; (try with_reducible rfl)))) | (refine wpAnyM_take 17 rfl (by kernel_rfl) (fun _ _ _ h => h) (Or.inr ⟨by rfl, rfl⟩) (by assumption) ?_)
  (try simp only [Act.put, List.setIfInBounds_toArray, List.set_cons_zero, List.set_cons_succ])
  first | (refine wpAnyM_take 18 (v := ?_) rfl (by kernel_rfl) (fun _ _ _ h => h) (Or.inl ⟨by rfl, ?_⟩) (by assumption) ?_; rotate_left; focus ((intro wx hSw; have hq := hSw.2.2.cell; go_simp; (try with_reducible rfl)))) | (refine wpAnyM_take 18 rfl (by kernel_rfl) (fun _ _ _ h => h) (Or.inr ⟨by rfl, rfl⟩) (by assumption) ?_)
  (try simp only [Act.put, List.setIfInBounds_toArray, List.set_cons_zero, List.set_cons_succ])
  first | (refine wpAnyM_take 19 (v := ?_) rfl (by kernel_rfl) (fun _ _ _ h => h) (Or.inl ⟨by rfl, ?_⟩) (by assumption) ?_; rotate_left; focus ((intro wx hSw; (try dsimp only at hSw); go_simp; (try with_reducible rfl)))) | (refine wpAnyM_take 19 rfl (by kernel_rfl) (fun _ _ _ h => h) (Or.inr ⟨by rfl, rfl⟩) (by assumption) ?_)
  (try simp only [Act.put, List.setIfInBounds_toArray, List.set_cons_zero, List.set_cons_succ])
  refine wpAnyM_take 20 (v := ?_) rfl (by kernel_rfl) (fun _ _ _ h => h) (Or.inl ⟨by rfl, ?_⟩) (by assumption) ?_
  rotate_left
  · (intro wx hSw; (try dsimp only at hSw); go_simp; (try with_reducible rfl))
  (try simp only [Act.put, List.setIfInBounds_toArray, List.set_cons_zero, List.set_cons_succ])
  refine wpAnyM_one 21 rfl (by kernel_rfl) (fun K hK => ?_)
  go_simp
  refine hK.out _ _ (.inl (by kernel_rfl)) (fun _ => ?_)
  clear hK K
  (try simp only [Act.put, List.setIfInBounds_toArray, List.set_cons_zero, List.set_cons_succ])
  refine wpAnyM_done (by kernel_rfl) ?_ _
  go_wp2_with fail
  go_ret
  exact ⟨rfl, A10.out⟩
theorem good_walk (f F q : Nat → Int) (p : Option Addr) (n cp : Nat) (L : Nat → Int) (w : World) (hL : Slc w p n L) :
    Calls Try.prog 3 #[.agg (arrv 300 f), .agg (arrv 576 F), .agg (arrv 24 q), .slice p n cp] w fun e w' => e = .returned (.bool true) ∧ Below w.heap.size w w' := by
  rcases Nat.lt_or_ge 40 n with h | h
  · exact good_long f F q p n cp w h
  · exact good_short f F q p n cp L w h hL
end Go.Proofs.Ytomcniampdpnhaa
