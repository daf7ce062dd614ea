/- The walk of StateKept. -/
import Derived.Test.YtcbklolfibdffaaKeptP
import Derived.Test.YtcbklolfibdffaaBsl
namespace Go.Proofs.Ytcbklolfibdffaa
open Go.RowKit
set_option maxRecDepth 100000
structure KtR (be kb ab : Nat) (S K A : Nat → Int) (w w' : World) : Prop where
  below : Below w.heap.size w w'
  flg : Flg w' be false
  s : Blk w' w.heap.size 27 24 S
  k : Blk w' kb 27 24 K
  a : Blk w' ab 27 24 A
theorem KtR.down {be kb ab : Nat} {S K A : Nat → Int} {w w1 w2 : World} (r : KtR be kb ab S K A w w1) (u : Below w1.heap.size w1 w2) : KtR be kb ab S K A w w2 :=
  ⟨Below.after r.below u, r.flg.below u, r.s.below u, r.k.below u, r.a.below u⟩
theorem KtR.drew {be kb ab : Nat} {S K A : Nat → Int} {w w1 : World} (r : KtR be kb ab S K A w w1) : KtR be kb ab S K A w w1.drew := ⟨r.below.drew, r.flg, r.s, r.k, r.a⟩
theorem KtR.hit {be kb ab : Nat} {S K A : Nat → Int} {w w1 w2 : World} (r : KtR be kb ab S K A w w1) (hb : w.heap.size ≤ be) {h : Bool} (hh : h = false) (u : Upd ⟨be, 0, none⟩ h w1 w2) : KtR be kb ab S K A w w2 := by
  subst hh
  exact ⟨own_upd r.below hb u, r.flg.hit u, r.s.upd u (r.flg.ne r.s), r.k.upd u (r.flg.ne r.k), r.a.upd u (r.flg.ne r.a)⟩
set_option maxHeartbeats 8000000 in
theorem kept_walk (S D : Nat → Int) (w : World) :
    Calls Try.prog 4 #[.agg (arrv 24 S), .agg (arrv 24 D)] w fun e w' => e = .returned (.bool true) ∧ Below w.heap.size w w' := by
  have P0 : Hid (Blk ((w.alloc (.cells (arrv 24 S) 27)).alloc (.cells (arrv 24 D) 26)) w.heap.size 27 24 S) := Lib.hid ((Blk.new w _ 24 _).alloc _)
  have D0 : Hid (Blk ((w.alloc (.cells (arrv 24 S) 27)).alloc (.cells (arrv 24 D) 26)) (w.heap.size + 1) 26 24 D) := Lib.hid (Blk.new1 w _ _ 24 _)
  have B0 : Hid (Below w.heap.size w ((w.alloc (.cells (arrv 24 S) 27)).alloc (.cells (arrv 24 D) 26))) := Lib.hid (by (repeat (first | with_reducible exact Below.refl _ _ | with_reducible apply Below.drew | (with_reducible refine below_drewN ?_ _) | (with_reducible refine Below.alloc ?_ (by (try simp) <;> omega) _) | (with_reducible refine Below.setCell ?_ (by (try simp) <;> omega) _))))
  go_enter Try.func4, Try.ntmps4
  go_upto_region 1 with fail
  generalize (w.alloc (.cells (arrv 24 S) 27)).alloc (.cells (arrv 24 D) 26) = W0 at *
  go_upto_region 3 with (go_at_call 7; (refine (awake15_any _).mono ?_); rintro e w1 ⟨rfl, hb1⟩; have P1 := Lib.hid (P0.out.below hb1); have D1 := Lib.hid (D0.out.below hb1); have B1 := Lib.hid (Below.after B0.out hb1); clear hb1)
  obtain ⟨bc, hbc⟩ : ∃ x, w1.heap.size = x := ⟨_, rfl⟩
  have hbp : w.heap.size + 1 < bc := by rw [← hbc]; exact D1.out.lt
  have F2 : Flg (w1.alloc (.cells #[.bool false] 25)) bc false := by rw [← hbc]; exact Flg.new w1 false
  have P2 := P1.out.alloc (.cells #[.bool false] 25)
  have D2 := Lib.hid (D1.out.alloc (.cells #[.bool false] 25))
  have B2 := Lib.hid (B1.out.alloc B1.out.size (.cells #[.bool false] 25))
  have F2 := Lib.hid F2
  have HBC := Lib.hid hbc
  clear P0 B0 P1 B1 D0 D1 hbc
  go_upto_region 4 with fail
  (try rw [HBC.out])
  generalize w1.alloc (.cells #[.bool false] 25) = W2 at *
  clear HBC
  have KG := keep_good S
  have AG : goodB (addNF S D 1) = true := add_good S _
  have SF := fun h => keep_fix (K := S) h
  obtain ⟨Kp, hK⟩ : ∃ Kp, keepF S = Kp := ⟨_, rfl⟩
  obtain ⟨Ad, hA⟩ : ∃ Ad, addNF S D 1 = Ad := ⟨_, rfl⟩
  rw [hK] at KG
  rw [hA] at AG
  have KF := keep_fix KG
  have AF := keep_fix AG
  have SK : Hid (goodB S = true → eqB 24 Kp S = true) := Lib.hid fun h => eqB_iff.2 (by rw [← hK]; exact (SF h).1)
  have EK : Hid (eqB 24 (keepF Kp) Kp = true ∧ keepH Kp = false) := Lib.hid ⟨eqB_iff.2 KF.1, KF.2⟩
  have EA : Hid (eqB 24 (keepF Ad) Ad = true ∧ keepH Ad = false) := Lib.hid ⟨eqB_iff.2 AF.1, AF.2⟩
  have G := Lib.hid (And.intro KG AG)
  have K2 := keep_any ⟨bc, 0, none⟩ false S W2 F2.out.cell F2.out.free
  rw [hK] at K2
  have K2 := Lib.hid K2
  have HA := Lib.hid hA
  clear KG AG SF KF AF hK hA
  go_upto_region 5 with (first | (refine wpList_load_row rfl 27 _ rfl (w.heap.size) rfl 27 _ (0, 0) _ (P2) Try.underlying27 rfl (ist.trans (by rw [arrv_size])) ?_) | (go_at_call 8; (refine K2.out.mono ?_); rintro e w3 ⟨rfl, hu3⟩; have F3 := Lib.hid (F2.out.hit hu3); have P3 := Lib.hid (P2.upd hu3 (by show w.heap.size ≠ bc; omega)); have D3 := Lib.hid (D2.out.upd hu3 (by show w.heap.size + 1 ≠ bc; omega)); have B3 := Lib.hid (own_upd B2.out (by show w.heap.size ≤ bc; omega) hu3); have R3 : Blk (w3.alloc (.cells #[.int .i64 0, .int .i64 0, .int .i64 0, .int .i64 0, .int .i64 0, .int .i64 0, .int .i64 0, .int .i64 0, .int .i64 0, .int .i64 0, .int .i64 0, .int .i64 0, .int .i64 0, .int .i64 0, .int .i64 0, .int .i64 0, .int .i64 0, .int .i64 0, .int .i64 0, .int .i64 0, .int .i64 0, .int .i64 0, .int .i64 0, .int .i64 0] 27)) w3.heap.size 27 24 (fun _ => 0) := (by rw [zvec24]; exact Blk.new _ _ 24 _); clear hu3) | (refine wpList_store_row rfl 27 _ _ rfl (w3.heap.size) _ rfl rfl 27 _ (R3) (ist.trans (by rw [arrv_size])) (by rw [arrv_size, arrv_size]) (oneCell_arrv _ _) ?_))
  obtain ⟨w4, hw4⟩ : ∃ x, x = (w3.alloc (.cells #[.int .i64 0, .int .i64 0, .int .i64 0, .int .i64 0, .int .i64 0, .int .i64 0, .int .i64 0, .int .i64 0, .int .i64 0, .int .i64 0, .int .i64 0, .int .i64 0, .int .i64 0, .int .i64 0, .int .i64 0, .int .i64 0, .int .i64 0, .int .i64 0, .int .i64 0, .int .i64 0, .int .i64 0, .int .i64 0, .int .i64 0, .int .i64 0] 27)).setRow w3.heap.size (arrv 24 Kp) := ⟨_, rfl⟩
  rw [← hw4]
  obtain ⟨K4, MB4⟩ := st_made w3 Kp w4 hw4
  have F4 := Lib.hid (F3.out.below MB4)
  have P4 := P3.out.below MB4
  have D4 := D3.out.below MB4
  have B4 := Lib.hid (Below.after B3.out MB4)
  have hkl : bc < w3.heap.size := F3.out.lt
  obtain ⟨kb, hkb⟩ : ∃ x, w3.heap.size = x := ⟨_, rfl⟩
  rw [hkb] at K4 hkl ⊢
  have K4 := Lib.hid K4
  clear hw4 hkb R3 MB4 F3 P3 D3 B3 K2 P2 D2 F2 B2
  have DB : Blk (w4.alloc (.cells (arrv 24 D) 26)) w4.heap.size 26 (24 * 1) D := Blk.new _ _ 24 _
  have F5 := Lib.hid (F4.out.alloc (.cells (arrv 24 D) 26))
  have B5 := Lib.hid (B4.out.alloc B4.out.size (.cells (arrv 24 D) 26))
  have P5 := Lib.hid (P4.alloc (.cells (arrv 24 D) 26))
  have K5 := Lib.hid (K4.out.alloc (.cells (arrv 24 D) 26))
  have A5 := sadd_any ⟨bc, 0, none⟩ (false || keepH S) S D w4.heap.size 1 1 _ F5.out.cell F5.out.free (by decide) (by decide) DB
  rw [HA.out] at A5
  have A5 := Lib.hid A5
  clear DB
  go_upto_region 6 with (first | (refine wpList_load_row rfl 27 _ rfl (w.heap.size) rfl 27 _ (0, 0) _ (P4) Try.underlying27 rfl (ist.trans (by rw [arrv_size])) ?_) | (refine wpList_load_row rfl 26 _ rfl (w.heap.size + 1) rfl 26 _ (0, 0) _ (D4) Try.underlying26 rfl (icol.trans (by rw [arrv_size])) ?_) | (refine wpList_bsl24 rfl (.tmp 18) rfl rfl ?_) | (go_at_call 12; (refine A5.out.mono ?_); rintro e w6 ⟨rfl, hu6⟩; have P6 := Lib.hid (P5.out.upd hu6 (by show w.heap.size ≠ bc; omega)); have K6 := Lib.hid (K5.out.upd hu6 (by show kb ≠ bc; omega)); have B6 := Lib.hid (own_upd B5.out (by show w.heap.size ≤ bc; omega) hu6); have R6 : Blk (w6.alloc (.cells #[.int .i64 0, .int .i64 0, .int .i64 0, .int .i64 0, .int .i64 0, .int .i64 0, .int .i64 0, .int .i64 0, .int .i64 0, .int .i64 0, .int .i64 0, .int .i64 0, .int .i64 0, .int .i64 0, .int .i64 0, .int .i64 0, .int .i64 0, .int .i64 0, .int .i64 0, .int .i64 0, .int .i64 0, .int .i64 0, .int .i64 0, .int .i64 0] 27)) w6.heap.size 27 24 (fun _ => 0) := (by rw [zvec24]; exact Blk.new _ _ 24 _); clear hu6) | (refine wpList_store_row rfl 27 _ _ rfl (w6.heap.size) _ rfl rfl 27 _ (R6) (ist.trans (by rw [arrv_size])) (by rw [arrv_size, arrv_size]) (oneCell_arrv _ _) ?_))
  obtain ⟨w7, hw7⟩ : ∃ x, x = (w6.alloc (.cells #[.int .i64 0, .int .i64 0, .int .i64 0, .int .i64 0, .int .i64 0, .int .i64 0, .int .i64 0, .int .i64 0, .int .i64 0, .int .i64 0, .int .i64 0, .int .i64 0, .int .i64 0, .int .i64 0, .int .i64 0, .int .i64 0, .int .i64 0, .int .i64 0, .int .i64 0, .int .i64 0, .int .i64 0, .int .i64 0, .int .i64 0, .int .i64 0] 27)).setRow w6.heap.size (arrv 24 Ad) := ⟨_, rfl⟩
  rw [← hw7]
  obtain ⟨A7, MB7⟩ := st_made w6 Ad w7 hw7
  have P7 := P6.out.below MB7
  have K7 := K6.out.below MB7
  have B7 := Below.after B6.out MB7
  obtain ⟨ab, hab⟩ : ∃ x, w6.heap.size = x := ⟨_, rfl⟩
  rw [hab] at A7 ⊢
  have R8 : KtR w7.heap.size kb ab S Kp Ad w (w7.alloc (.cells #[.bool false] 25)) := ⟨B7.alloc B7.size _, Flg.new w7 false, P7.alloc _, K7.alloc _, A7.alloc _⟩
  have hbe : w.heap.size ≤ w7.heap.size := B7.size
  obtain ⟨be, hbe2⟩ : ∃ x, w7.heap.size = x := ⟨_, rfl⟩
  rw [hbe2] at R8 hbe
  have HBE := Lib.hid hbe2
  have R8 := Lib.hid R8
  clear hw7 hab R6 MB7 P6 K6 B6 A7 P7 K7 B7 F5 B5 P5 K5 A5 F4 P4 D4 B4 K4 hbe2 HA
  go_upto_region 7 with fail
  (try rw [HBE.out])
  generalize w7.alloc (.cells #[.bool false] 25) = W8 at *
  clear HBE
  have hG : goodB S = true ∨ goodB S = false := by cases goodB S <;> simp
  rcases hG with hG | hG
  all_goals
    have HG := Lib.hid hG
    have SE : Hid (goodB S = true → eqB 24 Kp S = true) := SK
    clear hG
    refine wp_region_M (fun w' => KtR be kb ab S Kp Ad w w') 44 (by kernel_rfl) ?_ (fun hHeld => ?_)
    · exact R8.out.drew
    refine wpAnyM_take 0 (v := ?_) rfl (by kernel_rfl) (fun _ _ _ h => h) (Or.inl ⟨by rfl, ?_⟩) (by assumption) ?_
    rotate_left
    · (intro wx hSw; refine Eq.trans (run_load_row 27 (.tmp 6) (by rfl) (kb) (by rfl) _ _ _ _ (hSw.k) Try.underlying27 rfl (ist.trans (by rw [arrv_size]))) ?_; with_reducible rfl)
    (try simp only [Act.put, List.setIfInBounds_toArray, List.set_cons_zero, List.set_cons_succ])
    refine wpAnyM_oneS 1 rfl (by kernel_rfl) (fun K hK => ?_)
    go_simp
    (refine (sgood_any Kp _).mono ?_); rintro e w9 ⟨rfl, hb9⟩; (rw [G.out.1]); have R9 := Lib.hid (R8.out.drew.down hb9); clear hb9
    (try dsimp only)
    (try simp only [Act.put, List.setIfInBounds_toArray, List.set_cons_zero, List.set_cons_succ])
    clear hHeld
    refine hK.out _ _ ?_ (fun hHeld => ?_)
    · exact R9.out
    clear hK K
    (try simp only [Act.put, List.setIfInBounds_toArray, List.set_cons_zero, List.set_cons_succ])
    refine wpAnyM_take 2 (v := ?_) rfl (by kernel_rfl) (fun _ _ _ h => h) (Or.inl ⟨by rfl, ?_⟩) (by assumption) ?_
    rotate_left
    · (intro wx hSw; (try dsimp only at hSw); go_simp; (try with_reducible rfl))
    (try simp only [Act.put, List.setIfInBounds_toArray, List.set_cons_zero, List.set_cons_succ])
    first | (refine wpAnyM_take 3 (v := ?_) rfl (by kernel_rfl) (fun _ _ _ h => h) (Or.inl ⟨by rfl, ?_⟩) (by assumption) ?_; rotate_left; focus ((intro wx hSw; refine Eq.trans (run_load_row 27 (.tmp 7) (by rfl) (ab) (by rfl) _ _ _ _ (hSw.a) Try.underlying27 rfl (ist.trans (by rw [arrv_size]))) ?_; with_reducible rfl))) | (refine wpAnyM_take 3 rfl (by kernel_rfl) (fun _ _ _ h => h) (Or.inr ⟨by rfl, rfl⟩) (by assumption) ?_)
    (try simp only [Act.put, List.setIfInBounds_toArray, List.set_cons_zero, List.set_cons_succ])
    refine wpAnyM_oneS 4 rfl (by kernel_rfl) (fun K hK => ?_)
    go_simp
    (refine (sgood_any Ad _).mono ?_); rintro e w10 ⟨rfl, hb10⟩; (rw [G.out.2]); have R10 := Lib.hid (R9.out.down hb10); clear hb10
    (try dsimp only)
    (try simp only [Act.put, List.setIfInBounds_toArray, List.set_cons_zero, List.set_cons_succ])
    clear hHeld
    refine hK.out _ _ ?_ (fun hHeld => ?_)
    · exact R10.out
    clear hK K
    (try simp only [Act.put, List.setIfInBounds_toArray, List.set_cons_zero, List.set_cons_succ])
    refine wpAnyM_take 5 (v := ?_) rfl (by kernel_rfl) (fun _ _ _ h => h) (Or.inl ⟨by rfl, ?_⟩) (by assumption) ?_
    rotate_left
    · (intro wx hSw; (try dsimp only at hSw); go_simp; (try with_reducible rfl))
    (try simp only [Act.put, List.setIfInBounds_toArray, List.set_cons_zero, List.set_cons_succ])
    refine wpAnyM_take 6 (v := ?_) rfl (by kernel_rfl) (fun _ _ _ h => h) (Or.inl ⟨by rfl, ?_⟩) (by assumption) ?_
    rotate_left
    · (intro wx hSw; (try dsimp only at hSw); go_simp; (try with_reducible rfl))
    (try simp only [Act.put, List.setIfInBounds_toArray, List.set_cons_zero, List.set_cons_succ])
    first | (refine wpAnyM_take 7 (v := ?_) rfl (by kernel_rfl) (fun _ _ _ h => h) (Or.inl ⟨by rfl, ?_⟩) (by assumption) ?_; rotate_left; focus ((intro wx hSw; (try dsimp only at hSw); go_simp; (try with_reducible rfl)))) | (refine wpAnyM_take 7 rfl (by kernel_rfl) (fun _ _ _ h => h) (Or.inr ⟨by rfl, rfl⟩) (by assumption) ?_)
    (try simp only [Act.put, List.setIfInBounds_toArray, List.set_cons_zero, List.set_cons_succ])
    first | (refine wpAnyM_take 8 (v := ?_) rfl (by kernel_rfl) (fun _ _ _ h => h) (Or.inl ⟨by rfl, ?_⟩) (by assumption) ?_; rotate_left; focus ((intro wx hSw; refine Eq.trans (run_load_row 27 (.tmp 6) (by rfl) (kb) (by rfl) _ _ _ _ (hSw.k) Try.underlying27 rfl (ist.trans (by rw [arrv_size]))) ?_; with_reducible rfl))) | (refine wpAnyM_take 8 rfl (by kernel_rfl) (fun _ _ _ h => h) (Or.inr ⟨by rfl, rfl⟩) (by assumption) ?_)
    (try simp only [Act.put, List.setIfInBounds_toArray, List.set_cons_zero, List.set_cons_succ])
    first | (refine wpAnyM_take 10 (v := ?_) rfl (by kernel_rfl) (fun _ _ _ h => h) (Or.inl ⟨by rfl, ?_⟩) (by assumption) ?_; rotate_left; focus ((intro wx hSw; refine Eq.trans (run_load_row 27 (.tmp 6) (by rfl) (kb) (by rfl) _ _ _ _ (hSw.k) Try.underlying27 rfl (ist.trans (by rw [arrv_size]))) ?_; with_reducible rfl))) | (refine wpAnyM_take 10 rfl (by kernel_rfl) (fun _ _ _ h => h) (Or.inr ⟨by rfl, rfl⟩) (by assumption) ?_)
    (try simp only [Act.put, List.setIfInBounds_toArray, List.set_cons_zero, List.set_cons_succ])
    refine wpAnyM_oneS 9 rfl (by kernel_rfl) (fun K hK => ?_)
    go_simp
    (refine (keep_any ⟨be, 0, none⟩ false Kp w10 R10.out.flg.cell R10.out.flg.free).mono ?_); rintro e w11 ⟨rfl, hu11⟩; have R11 := Lib.hid (R10.out.hit hbe (by rw [EK.out.2]; rfl) hu11); clear hu11
    (try dsimp only)
    (try simp only [Act.put, List.setIfInBounds_toArray, List.set_cons_zero, List.set_cons_succ])
    clear hHeld
    refine hK.out _ _ ?_ (fun hHeld => ?_)
    · exact R11.out
    clear hK K
    (try simp only [Act.put, List.setIfInBounds_toArray, List.set_cons_zero, List.set_cons_succ])
    first | (refine wpAnyM_take 11 (v := ?_) rfl (by kernel_rfl) (fun _ _ _ h => h) (Or.inl ⟨by rfl, ?_⟩) (by assumption) ?_; rotate_left; focus ((intro wx hSw; refine Eq.trans (run_op_eqlVec Try.underlying27 (by kernel_rfl) (.tmp 32) (.tmp 33) (by rfl) (by rfl) (by rfl) EK.out.1) ?_; with_reducible rfl))) | (refine wpAnyM_take 11 rfl (by kernel_rfl) (fun _ _ _ h => h) (Or.inr ⟨by rfl, rfl⟩) (by assumption) ?_)
    (try simp only [Act.put, List.setIfInBounds_toArray, List.set_cons_zero, List.set_cons_succ])
    refine wpAnyM_take 12 (v := ?_) rfl (by kernel_rfl) (fun _ _ _ h => h) (Or.inl ⟨by rfl, ?_⟩) (by assumption) ?_
    rotate_left
    · (intro wx hSw; (try dsimp only at hSw); go_simp; (try with_reducible rfl))
    (try simp only [Act.put, List.setIfInBounds_toArray, List.set_cons_zero, List.set_cons_succ])
    refine wpAnyM_take 13 (v := ?_) rfl (by kernel_rfl) (fun _ _ _ h => h) (Or.inl ⟨by rfl, ?_⟩) (by assumption) ?_
    rotate_left
    · (intro wx hSw; (try dsimp only at hSw); go_simp; (try with_reducible rfl))
    (try simp only [Act.put, List.setIfInBounds_toArray, List.set_cons_zero, List.set_cons_succ])
    first | (refine wpAnyM_take 14 (v := ?_) rfl (by kernel_rfl) (fun _ _ _ h => h) (Or.inl ⟨by rfl, ?_⟩) (by assumption) ?_; rotate_left; focus ((intro wx hSw; (try dsimp only at hSw); go_simp; (try with_reducible rfl)))) | (refine wpAnyM_take 14 rfl (by kernel_rfl) (fun _ _ _ h => h) (Or.inr ⟨by rfl, rfl⟩) (by assumption) ?_)
    (try simp only [Act.put, List.setIfInBounds_toArray, List.set_cons_zero, List.set_cons_succ])
    first | (refine wpAnyM_take 15 (v := ?_) rfl (by kernel_rfl) (fun _ _ _ h => h) (Or.inl ⟨by rfl, ?_⟩) (by assumption) ?_; rotate_left; focus ((intro wx hSw; refine Eq.trans (run_load_row 27 (.tmp 7) (by rfl) (ab) (by rfl) _ _ _ _ (hSw.a) Try.underlying27 rfl (ist.trans (by rw [arrv_size]))) ?_; with_reducible rfl))) | (refine wpAnyM_take 15 rfl (by kernel_rfl) (fun _ _ _ h => h) (Or.inr ⟨by rfl, rfl⟩) (by assumption) ?_)
    (try simp only [Act.put, List.setIfInBounds_toArray, List.set_cons_zero, List.set_cons_succ])
    first | (refine wpAnyM_take 17 (v := ?_) rfl (by kernel_rfl) (fun _ _ _ h => h) (Or.inl ⟨by rfl, ?_⟩) (by assumption) ?_; rotate_left; focus ((intro wx hSw; refine Eq.trans (run_load_row 27 (.tmp 7) (by rfl) (ab) (by rfl) _ _ _ _ (hSw.a) Try.underlying27 rfl (ist.trans (by rw [arrv_size]))) ?_; with_reducible rfl))) | (refine wpAnyM_take 17 rfl (by kernel_rfl) (fun _ _ _ h => h) (Or.inr ⟨by rfl, rfl⟩) (by assumption) ?_)
    (try simp only [Act.put, List.setIfInBounds_toArray, List.set_cons_zero, List.set_cons_succ])
    refine wpAnyM_oneS 16 rfl (by kernel_rfl) (fun K hK => ?_)
    go_simp
    (refine (keep_any ⟨be, 0, none⟩ false Ad w11 R11.out.flg.cell R11.out.flg.free).mono ?_); rintro e w12 ⟨rfl, hu12⟩; have R12 := Lib.hid (R11.out.hit hbe (by rw [EA.out.2]; rfl) hu12); clear hu12
    (try dsimp only)
    (try simp only [Act.put, List.setIfInBounds_toArray, List.set_cons_zero, List.set_cons_succ])
    clear hHeld
    refine hK.out _ _ ?_ (fun hHeld => ?_)
    · exact R12.out
    clear hK K
    (try simp only [Act.put, List.setIfInBounds_toArray, List.set_cons_zero, List.set_cons_succ])
    first | (refine wpAnyM_take 18 (v := ?_) rfl (by kernel_rfl) (fun _ _ _ h => h) (Or.inl ⟨by rfl, ?_⟩) (by assumption) ?_; rotate_left; focus ((intro wx hSw; refine Eq.trans (run_op_eqlVec Try.underlying27 (by kernel_rfl) (.tmp 39) (.tmp 40) (by rfl) (by rfl) (by rfl) EA.out.1) ?_; with_reducible rfl))) | (refine wpAnyM_take 18 rfl (by kernel_rfl) (fun _ _ _ h => h) (Or.inr ⟨by rfl, rfl⟩) (by assumption) ?_)
    (try simp only [Act.put, List.setIfInBounds_toArray, List.set_cons_zero, List.set_cons_succ])
    refine wpAnyM_take 19 (v := ?_) rfl (by kernel_rfl) (fun _ _ _ h => h) (Or.inl ⟨by rfl, ?_⟩) (by assumption) ?_
    rotate_left
    · (intro wx hSw; (try dsimp only at hSw); go_simp; (try with_reducible rfl))
    (try simp only [Act.put, List.setIfInBounds_toArray, List.set_cons_zero, List.set_cons_succ])
    refine wpAnyM_take 20 (v := ?_) rfl (by kernel_rfl) (fun _ _ _ h => h) (Or.inl ⟨by rfl, ?_⟩) (by assumption) ?_
    rotate_left
    · (intro wx hSw; (try dsimp only at hSw); go_simp; (try with_reducible rfl))
    (try simp only [Act.put, List.setIfInBounds_toArray, List.set_cons_zero, List.set_cons_succ])
    first | (refine wpAnyM_take 21 (v := ?_) rfl (by kernel_rfl) (fun _ _ _ h => h) (Or.inl ⟨by rfl, ?_⟩) (by assumption) ?_; rotate_left; focus ((intro wx hSw; (try dsimp only at hSw); go_simp; (try with_reducible rfl)))) | (refine wpAnyM_take 21 rfl (by kernel_rfl) (fun _ _ _ h => h) (Or.inr ⟨by rfl, rfl⟩) (by assumption) ?_)
    (try simp only [Act.put, List.setIfInBounds_toArray, List.set_cons_zero, List.set_cons_succ])
    first | (refine wpAnyM_take 22 (v := ?_) rfl (by kernel_rfl) (fun _ _ _ h => h) (Or.inl ⟨by rfl, ?_⟩) (by assumption) ?_; rotate_left; focus ((intro wx hSw; (try dsimp only at hSw); go_simp; (try with_reducible rfl)))) | (refine wpAnyM_take 22 rfl (by kernel_rfl) (fun _ _ _ h => h) (Or.inr ⟨by rfl, rfl⟩) (by assumption) ?_)
    (try simp only [Act.put, List.setIfInBounds_toArray, List.set_cons_zero, List.set_cons_succ])
    first | (refine wpAnyM_take 23 (v := ?_) rfl (by kernel_rfl) (fun _ _ _ h => h) (Or.inl ⟨by rfl, ?_⟩) (by assumption) ?_; rotate_left; focus ((intro wx hSw; (try dsimp only at hSw); go_simp; (try with_reducible rfl)))) | (refine wpAnyM_take 23 rfl (by kernel_rfl) (fun _ _ _ h => h) (Or.inr ⟨by rfl, rfl⟩) (by assumption) ?_)
    (try simp only [Act.put, List.setIfInBounds_toArray, List.set_cons_zero, List.set_cons_succ])
    first | (refine wpAnyM_take 24 (v := ?_) rfl (by kernel_rfl) (fun _ _ _ h => h) (Or.inl ⟨by rfl, ?_⟩) (by assumption) ?_; rotate_left; focus ((intro wx hSw; have c9 := hSw.flg.cell; go_simp; (try with_reducible rfl)))) | (refine wpAnyM_take 24 rfl (by kernel_rfl) (fun _ _ _ h => h) (Or.inr ⟨by rfl, rfl⟩) (by assumption) ?_)
    (try simp only [Act.put, List.setIfInBounds_toArray, List.set_cons_zero, List.set_cons_succ])
    first | (refine wpAnyM_take 25 (v := ?_) rfl (by kernel_rfl) (fun _ _ _ h => h) (Or.inl ⟨by rfl, ?_⟩) (by assumption) ?_; rotate_left; focus ((intro wx hSw; (try dsimp only at hSw); go_simp; (try with_reducible rfl)))) | (refine wpAnyM_take 25 rfl (by kernel_rfl) (fun _ _ _ h => h) (Or.inr ⟨by rfl, rfl⟩) (by assumption) ?_)
    (try simp only [Act.put, List.setIfInBounds_toArray, List.set_cons_zero, List.set_cons_succ])
    refine wpAnyM_take 26 (v := ?_) rfl (by kernel_rfl) (fun _ _ _ h => h) (Or.inl ⟨by rfl, ?_⟩) (by assumption) ?_
    rotate_left
    · (intro wx hSw; (try dsimp only at hSw); go_simp; (try with_reducible rfl))
    (try simp only [Act.put, List.setIfInBounds_toArray, List.set_cons_zero, List.set_cons_succ])
    refine wpAnyM_take 27 (v := ?_) rfl (by kernel_rfl) (fun _ _ _ h => h) (Or.inl ⟨by rfl, ?_⟩) (by assumption) ?_
    rotate_left
    · (intro wx hSw; (try dsimp only at hSw); go_simp; (try with_reducible rfl))
    (try simp only [Act.put, List.setIfInBounds_toArray, List.set_cons_zero, List.set_cons_succ])
    first | (refine wpAnyM_take 28 (v := ?_) rfl (by kernel_rfl) (fun _ _ _ h => h) (Or.inl ⟨by rfl, ?_⟩) (by assumption) ?_; rotate_left; focus ((intro wx hSw; refine Eq.trans (run_load_row 27 (.tmp 2) (by rfl) (w.heap.size) (by rfl) _ _ _ _ (hSw.s) Try.underlying27 rfl (ist.trans (by rw [arrv_size]))) ?_; with_reducible rfl))) | (refine wpAnyM_take 28 rfl (by kernel_rfl) (fun _ _ _ h => h) (Or.inr ⟨by rfl, rfl⟩) (by assumption) ?_)
    (try simp only [Act.put, List.setIfInBounds_toArray, List.set_cons_zero, List.set_cons_succ])
    refine wpAnyM_oneS 29 rfl (by kernel_rfl) (fun K hK => ?_)
    go_simp
    (refine (sgood_any S _).mono ?_); rintro e w13 ⟨rfl, hb13⟩; (rw [HG.out]); have R13 := Lib.hid (R12.out.down hb13); clear hb13
    (try dsimp only)
    (try simp only [Act.put, List.setIfInBounds_toArray, List.set_cons_zero, List.set_cons_succ])
    clear hHeld
    refine hK.out _ _ ?_ (fun hHeld => ?_)
    · exact R13.out
    clear hK K
    (try simp only [Act.put, List.setIfInBounds_toArray, List.set_cons_zero, List.set_cons_succ])
    first | (refine wpAnyM_take 30 (v := ?_) rfl (by kernel_rfl) (fun _ _ _ h => h) (Or.inl ⟨by rfl, ?_⟩) (by assumption) ?_; rotate_left; focus ((intro wx hSw; (try dsimp only at hSw); go_simp; (try with_reducible rfl)))) | (refine wpAnyM_take 30 rfl (by kernel_rfl) (fun _ _ _ h => h) (Or.inr ⟨by rfl, rfl⟩) (by assumption) ?_)
    (try simp only [Act.put, List.setIfInBounds_toArray, List.set_cons_zero, List.set_cons_succ])
    first | (refine wpAnyM_take 31 (v := ?_) rfl (by kernel_rfl) (fun _ _ _ h => h) (Or.inl ⟨by rfl, ?_⟩) (by assumption) ?_; rotate_left; focus ((intro wx hSw; (try dsimp only at hSw); go_simp; (try with_reducible rfl)))) | (refine wpAnyM_take 31 rfl (by kernel_rfl) (fun _ _ _ h => h) (Or.inr ⟨by rfl, rfl⟩) (by assumption) ?_)
    (try simp only [Act.put, List.setIfInBounds_toArray, List.set_cons_zero, List.set_cons_succ])
    first | (refine wpAnyM_take 32 (v := ?_) rfl (by kernel_rfl) (fun _ _ _ h => h) (Or.inl ⟨by rfl, ?_⟩) (by assumption) ?_; rotate_left; focus ((intro wx hSw; refine Eq.trans (run_load_row 27 (.tmp 6) (by rfl) (kb) (by rfl) _ _ _ _ (hSw.k) Try.underlying27 rfl (ist.trans (by rw [arrv_size]))) ?_; with_reducible rfl))) | (refine wpAnyM_take 32 rfl (by kernel_rfl) (fun _ _ _ h => h) (Or.inr ⟨by rfl, rfl⟩) (by assumption) ?_)
    (try simp only [Act.put, List.setIfInBounds_toArray, List.set_cons_zero, List.set_cons_succ])
    first | (refine wpAnyM_take 33 (v := ?_) rfl (by kernel_rfl) (fun _ _ _ h => h) (Or.inl ⟨by rfl, ?_⟩) (by assumption) ?_; rotate_left; focus ((intro wx hSw; refine Eq.trans (run_load_row 27 (.tmp 2) (by rfl) (w.heap.size) (by rfl) _ _ _ _ (hSw.s) Try.underlying27 rfl (ist.trans (by rw [arrv_size]))) ?_; with_reducible rfl))) | (refine wpAnyM_take 33 rfl (by kernel_rfl) (fun _ _ _ h => h) (Or.inr ⟨by rfl, rfl⟩) (by assumption) ?_)
    (try simp only [Act.put, List.setIfInBounds_toArray, List.set_cons_zero, List.set_cons_succ])
    first | (refine wpAnyM_take 34 (v := ?_) rfl (by kernel_rfl) (fun _ _ _ h => h) (Or.inl ⟨by rfl, ?_⟩) (by assumption) ?_; rotate_left; focus ((intro wx hSw; refine Eq.trans (run_op_eqlVec Try.underlying27 (by kernel_rfl) (.tmp 55) (.tmp 56) (by rfl) (by rfl) (by rfl) (SE.out HG.out)) ?_; with_reducible rfl))) | (refine wpAnyM_take 34 rfl (by kernel_rfl) (fun _ _ _ h => h) (Or.inr ⟨by rfl, rfl⟩) (by assumption) ?_)
    (try simp only [Act.put, List.setIfInBounds_toArray, List.set_cons_zero, List.set_cons_succ])
    first | (refine wpAnyM_take 35 (v := ?_) rfl (by kernel_rfl) (fun _ _ _ h => h) (Or.inl ⟨by rfl, ?_⟩) (by assumption) ?_; rotate_left; focus ((intro wx hSw; (try dsimp only at hSw); go_simp; (try with_reducible rfl)))) | (refine wpAnyM_take 35 rfl (by kernel_rfl) (fun _ _ _ h => h) (Or.inr ⟨by rfl, rfl⟩) (by assumption) ?_)
    (try simp only [Act.put, List.setIfInBounds_toArray, List.set_cons_zero, List.set_cons_succ])
    refine wpAnyM_take 36 (v := ?_) rfl (by kernel_rfl) (fun _ _ _ h => h) (Or.inl ⟨by rfl, ?_⟩) (by assumption) ?_
    rotate_left
    · (intro wx hSw; (try dsimp only at hSw); go_simp; (try with_reducible rfl))
    (try simp only [Act.put, List.setIfInBounds_toArray, List.set_cons_zero, List.set_cons_succ])
    refine wpAnyM_take 37 (v := ?_) rfl (by kernel_rfl) (fun _ _ _ h => h) (Or.inl ⟨by rfl, ?_⟩) (by assumption) ?_
    rotate_left
    · (intro wx hSw; (try dsimp only at hSw); go_simp; (try with_reducible rfl))
    (try simp only [Act.put, List.setIfInBounds_toArray, List.set_cons_zero, List.set_cons_succ])
    first | (refine wpAnyM_take 38 (v := ?_) rfl (by kernel_rfl) (fun _ _ _ h => h) (Or.inl ⟨by rfl, ?_⟩) (by assumption) ?_; rotate_left; focus ((intro wx hSw; (try dsimp only at hSw); go_simp; (try with_reducible rfl)))) | (refine wpAnyM_take 38 rfl (by kernel_rfl) (fun _ _ _ h => h) (Or.inr ⟨by rfl, rfl⟩) (by assumption) ?_)
    (try simp only [Act.put, List.setIfInBounds_toArray, List.set_cons_zero, List.set_cons_succ])
    first | (refine wpAnyM_take 39 (v := ?_) rfl (by kernel_rfl) (fun _ _ _ h => h) (Or.inl ⟨by rfl, ?_⟩) (by assumption) ?_; rotate_left; focus ((intro wx hSw; refine Eq.trans (run_load_row 27 (.tmp 6) (by rfl) (kb) (by rfl) _ _ _ _ (hSw.k) Try.underlying27 rfl (ist.trans (by rw [arrv_size]))) ?_; with_reducible rfl))) | (refine wpAnyM_take 39 rfl (by kernel_rfl) (fun _ _ _ h => h) (Or.inr ⟨by rfl, rfl⟩) (by assumption) ?_)
    (try simp only [Act.put, List.setIfInBounds_toArray, List.set_cons_zero, List.set_cons_succ])
    first | (refine wpAnyM_take 41 (v := ?_) rfl (by kernel_rfl) (fun _ _ _ h => h) (Or.inl ⟨by rfl, ?_⟩) (by assumption) ?_; rotate_left; focus ((intro wx hSw; refine Eq.trans (run_load_row 27 (.tmp 6) (by rfl) (kb) (by rfl) _ _ _ _ (hSw.k) Try.underlying27 rfl (ist.trans (by rw [arrv_size]))) ?_; with_reducible rfl))) | (refine wpAnyM_take 41 rfl (by kernel_rfl) (fun _ _ _ h => h) (Or.inr ⟨by rfl, rfl⟩) (by assumption) ?_)
    (try simp only [Act.put, List.setIfInBounds_toArray, List.set_cons_zero, List.set_cons_succ])
    refine wpAnyM_oneS 40 rfl (by kernel_rfl) (fun K hK => ?_)
    go_simp
    (refine (sadd_none ⟨be, 0, none⟩ false Kp none 0 w13 R13.out.flg.cell R13.out.flg.free).mono ?_); rintro e w14 ⟨rfl, hu14⟩; have R14 := Lib.hid (R13.out.hit hbe (by rw [EK.out.2]; rfl) hu14); clear hu14
    (try dsimp only)
    (try simp only [Act.put, List.setIfInBounds_toArray, List.set_cons_zero, List.set_cons_succ])
    clear hHeld
    refine hK.out _ _ ?_ (fun hHeld => ?_)
    · exact R14.out
    clear hK K
    (try simp only [Act.put, List.setIfInBounds_toArray, List.set_cons_zero, List.set_cons_succ])
    first | (refine wpAnyM_take 42 (v := ?_) rfl (by kernel_rfl) (fun _ _ _ h => h) (Or.inl ⟨by rfl, ?_⟩) (by assumption) ?_; rotate_left; focus ((intro wx hSw; refine Eq.trans (run_op_eqlVec Try.underlying27 (by kernel_rfl) (.tmp 63) (.tmp 64) (by rfl) (by rfl) (by rfl) EK.out.1) ?_; with_reducible rfl))) | (refine wpAnyM_take 42 rfl (by kernel_rfl) (fun _ _ _ h => h) (Or.inr ⟨by rfl, rfl⟩) (by assumption) ?_)
    (try simp only [Act.put, List.setIfInBounds_toArray, List.set_cons_zero, List.set_cons_succ])
    refine wpAnyM_take 43 (v := ?_) rfl (by kernel_rfl) (fun _ _ _ h => h) (Or.inl ⟨by rfl, ?_⟩) (by assumption) ?_
    rotate_left
    · (intro wx hSw; (try dsimp only at hSw); go_simp; (try with_reducible rfl))
    (try simp only [Act.put, List.setIfInBounds_toArray, List.set_cons_zero, List.set_cons_succ])
    refine wpAnyM_one 44 rfl (by kernel_rfl) (fun K hK => ?_)
    go_simp
    refine hK.out _ _ (.inl (by kernel_rfl)) (fun _ => ?_)
    clear hK K
    (try simp only [Act.put, List.setIfInBounds_toArray, List.set_cons_zero, List.set_cons_succ])
    refine wpAnyM_done (by kernel_rfl) ?_ _
    go_wp2_with fail
    go_ret
    exact ⟨rfl, R14.out.below⟩
end Go.Proofs.Ytcbklolfibdffaa
