/- The walk of the law ThorntonSays. -/
import Derived.Test.YtokcnjadknonmaaRs3
import Derived.Test.YtokcnjadknonmaaRegS
import Derived.Test.YtokcnjadknonmaaQ07
namespace Go.Proofs.Ytokcnjadknonmaa
open Go.RowKit
set_option maxRecDepth 100000
theorem orB_congr' {p q : Nat → Bool} : ∀ {n : Nat}, (∀ i, i < n → p i = q i) → orB p n = orB q n
  | 0, _ => rfl
  | n + 1, h => by simp only [orB]; rw [orB_congr' fun i hi => h i (by omega), h n (by omega)]
/-- The flags are the same, told in another order. -/
theorem rs_flags (f F q : Nat → Int) : (condH f || orB (fun k => qH (q k)) 24 || orB (rrH (condF f) F (fS F 24 0)) 24 || HN (stepW f F) (stepE f q) 24) = stepH f F q := by
  have e1 : loop1H q F 24 = (orB (fun k => qH (q k)) 24 || orB (fun i => orB (fun k => satH (F (i * 24 + k))) 24) 24) := by
    unfold loop1H; rw [orB_or]; rfl
  have e2 : orB (rrH (condF f) F (fS F 24 0)) 24 = (orB (fun i => orB (fun k => satH (F (i * 24 + k))) 24) 24 || rowsH (condF f) (fS F 24 0)) := by
    unfold rrH rowsH rwH
    rw [orB_or]
    exact congrArg _ (orB_swap _ 24 24)
  unfold stepH
  rw [e1, e2]
  simp only [Bool.or_assoc]
/-- The reference's Step, as the program's. -/
theorem rstep_all (c : Addr) (h : Bool) (f F q : Nat → Int) (fb TF : Nat) (w : World) (hc : w.cell? c = some (.bool h)) (hf : w.frozen? c = false) (hFB : Blk w fb TF 576 F) :
    Calls Try.prog 8 #[.pointer (some c), .agg (arrv 300 f), .pointer (some ⟨fb, 0, none⟩), .agg (arrv 24 q)] w fun e w' =>
      e = .returned (.agg (arrv 300 (stepF f F q))) ∧ Upd c (h || stepH f F q) w w' := by
  refine (rstep_any c h f F q fb TF w hc hf hFB).mono ?_
  rintro e w' ⟨H, rfl, hu, hH⟩
  rw [rs_flags] at hH
  rw [hH] at hu
  exact ⟨rfl, hu⟩
theorem ig24 : (Try.prog.info? 26).map (·.size) = some 576 := by kernel_rfl
set_option maxHeartbeats 8000000 in
theorem says10_walk (f F q : Nat → Int) (w : World) :
    Calls Try.prog 3 #[.agg (arrv 300 f), .agg (arrv 576 F), .agg (arrv 24 q)] w fun e w' => e = .returned (.bool true) ∧ Below w.heap.size w w' := by
  go_enter Try.func3, Try.ntmps3
  go_upto_region 3 with (go_at_call 6; (refine (awake_any _).mono ?_); rintro e w1 ⟨rfl, hb1⟩; have HB1 := Lib.hid hb1; clear hb1)
  have A0 : Below w.heap.size w (((w.alloc (.cells (arrv 300 f) 25)).alloc (.cells (arrv 576 F) 27)).alloc (.cells (arrv 24 q) 23)) := by (repeat (first | with_reducible exact Below.refl _ _ | with_reducible apply Below.drew | (with_reducible refine below_drewN ?_ _) | (with_reducible refine Below.alloc ?_ (by (try simp) <;> omega) _) | (with_reducible refine Below.setCell ?_ (by (try simp) <;> omega) _)))
  have B0 : Blk (((w.alloc (.cells (arrv 300 f) 25)).alloc (.cells (arrv 576 F) 27)).alloc (.cells (arrv 24 q) 23)) w.heap.size 25 300 f := ((Blk.new w _ _ _).alloc _).alloc _
  have B1 : Blk (((w.alloc (.cells (arrv 300 f) 25)).alloc (.cells (arrv 576 F) 27)).alloc (.cells (arrv 24 q) 23)) (w.heap.size + 1) 27 576 F := (Blk.new1 w _ _ _ _).alloc _
  have B2 := blk_new2 w (.cells (arrv 300 f) 25) (.cells (arrv 576 F) 27) 23 24 q
  have hz1 : w.heap.size + 2 < w1.heap.size := by have := HB1.out.size; simp at this; omega
  obtain ⟨bc, hbc⟩ : ∃ x, w1.heap.size = x := ⟨_, rfl⟩
  have X : ∃ w2, w2 = (w1.alloc (.cells #[.bool false] 31)).alloc (.cells #[.bool false] 35) := ⟨_, rfl⟩
  obtain ⟨w2, hw2⟩ := X
  have B12 : Below w1.heap.size w1 w2 := by rw [hw2]; (repeat (first | with_reducible exact Below.refl _ _ | with_reducible apply Below.drew | (with_reducible refine below_drewN ?_ _) | (with_reducible refine Below.alloc ?_ (by (try simp) <;> omega) _) | (with_reducible refine Below.setCell ?_ (by (try simp) <;> omega) _)))
  have A2 := Lib.hid (Below.trans (Below.after A0 HB1.out) (B12.mono (by omega)))
  have P0 := Lib.hid ((B0.below HB1.out).below B12)
  have P1 := Lib.hid ((B1.below HB1.out).below B12)
  have P2 := Lib.hid ((B2.below HB1.out).below B12)
  have kc : w2.cell? ⟨bc, 0, none⟩ = some (.bool false) ∧ w2.frozen? ⟨bc, 0, none⟩ = false ∧ w2.cell? ⟨bc + 1, 0, none⟩ = some (.bool false) ∧ w2.frozen? ⟨bc + 1, 0, none⟩ = false ∧ w2.heap.size = bc + 2 := by
    rw [hw2, ← hbc]; refine ⟨by simp [go_sem], by simp [go_sem], by simp [go_sem], by simp [go_sem], by simp⟩
  have KC := Lib.hid kc
  clear A0 B0 B1 B2 HB1 kc B12
  go_upto_region 5 with fail
  rw [← hw2]
  rw [hbc] at hz1
  clear hw2 hbc w1
  have L1 := P1.out
  have R5 : Blk (w2.alloc (.cells Try.zeroCells26 26)) w2.heap.size 26 576 (fun _ => 0) := by rw [zmat2]; exact Blk.new _ _ _ _
  go_upto_region 6 with (first | (refine wpList_load_row rfl 27 _ rfl (w.heap.size + 1) rfl 27 _ (0, 0) _ (L1) Try.underlying27 rfl (imat.trans (by rw [arrv_size])) ?_) | (refine wpList_store_row rfl 26 _ _ rfl (w2.heap.size) _ rfl rfl 26 _ (R5) (ig24.trans (by rw [arrv_size])) (by rw [arrv_size, arrv_size]) (oneCell_arrv _ _) ?_))
  obtain ⟨w3, hw3⟩ : ∃ x, x = (w2.alloc (.cells Try.zeroCells26 26)).setRow w2.heap.size (arrv 576 F) := ⟨_, rfl⟩
  rw [← hw3]
  have hs2 := KC.out.2.2.2.2
  have G3 : Blk w3 (bc + 2) 26 576 F := by rw [hw3, ← hs2]; exact R5.setRow _
  have B23 : Below w2.heap.size w2 w3 := by rw [hw3]; exact below_row ((Below.refl _ _).alloc (Nat.le_refl _) _) (Nat.le_refl _) _
  have A3 := Lib.hid (Below.trans A2.out (B23.mono (by have := A2.out.size; omega)))
  have p0 := P0.out.below B23
  have p1 := P1.out.below B23
  have p2 := P2.out.below B23
  have k0 : w3.cell? ⟨bc, 0, none⟩ = some (.bool false) := (B23.cell (by simp; omega)).trans KC.out.1
  have k1 : w3.frozen? ⟨bc, 0, none⟩ = false := (B23.frozen (by simp; omega)).trans KC.out.2.1
  have k2 : w3.cell? ⟨bc + 1, 0, none⟩ = some (.bool false) := (B23.cell (by simp; omega)).trans KC.out.2.2.1
  have k3 : w3.frozen? ⟨bc + 1, 0, none⟩ = false := (B23.frozen (by simp; omega)).trans KC.out.2.2.2.1
  rw [hs2]
  have hs3 := G3.lt
  clear hw3 R5 B23 A2 P0 P1 P2 L1 KC hs2 w2
  have ST := Lib.hid (step_any ⟨bc, 0, none⟩ false f F q w3.drew k0 k1)
  have RT := Lib.hid (fun (x : World) (a1 : x.cell? ⟨bc + 1, 0, none⟩ = some (.bool false)) (a2 : x.frozen? ⟨bc + 1, 0, none⟩ = false) (a3 : Blk x (bc + 2) 26 576 F) => rstep_all ⟨bc + 1, 0, none⟩ false f F q (bc + 2) _ x a1 a2 a3)
  simp only [Bool.false_or] at ST RT
  obtain ⟨SF, hSF⟩ : ∃ x, stepF f F q = x := ⟨_, rfl⟩
  obtain ⟨SH, hSH⟩ : ∃ x, stepH f F q = x := ⟨_, rfl⟩
  rw [hSF, hSH] at ST
  rw [hSF, hSH] at RT
  clear hSF hSH
  have m0 : w.heap.size ≠ (⟨bc, 0, none⟩ : Addr).block := by simp; omega
  have m1 : w.heap.size + 1 ≠ (⟨bc, 0, none⟩ : Addr).block := by simp; omega
  have m2 : w.heap.size + 1 + 1 ≠ (⟨bc, 0, none⟩ : Addr).block := by simp; omega
  refine wp_region_M (fun w' => Blk w' w.heap.size 25 300 f ∧ Blk w' (w.heap.size + 1) 27 576 F ∧ Blk w' (w.heap.size + 1 + 1) 23 24 q) 8 (by kernel_rfl) ?_ (fun hHeld => ?_)
  · exact ⟨p0, p1, p2⟩
  refine wpAnyM_takeW 0 (v := ?_) rfl (by kernel_rfl) (fun _ _ _ h => h) (Or.inl ⟨by rfl, ?_⟩) (.inr (by assumption)) ?_
  rotate_left
  · (intro wx hSw; (try dsimp only at hSw); go_simp; (try with_reducible rfl))
  (try simp only [Act.put, List.setIfInBounds_toArray, List.set_cons_zero, List.set_cons_succ])
  refine wpAnyM_take2 4 1 (v := ?_) rfl (by kernel_rfl) (fun _ _ _ h => h) (Or.inl ⟨by rfl, ?_⟩) (by assumption) ?_
  rotate_left
  · (intro wz hSw; refine Eq.trans (run_load_row 25 (.tmp 3) (by rfl) (w.heap.size) (by rfl) _ _ _ _ (hSw.1) Try.underlying25 rfl (icov.trans (by rw [arrv_size]))) ?_; with_reducible rfl)
  (try simp only [Act.put, List.setIfInBounds_toArray, List.set_cons_zero, List.set_cons_succ])
  refine wpAnyM_take2 4 2 (v := ?_) rfl (by kernel_rfl) (fun _ _ _ h => h) (Or.inl ⟨by rfl, ?_⟩) (by assumption) ?_
  rotate_left
  · (intro wz hSw; refine Eq.trans (run_load_row 27 (.tmp 4) (by rfl) (w.heap.size + 1) (by rfl) _ _ _ _ (hSw.2.1) Try.underlying27 rfl (imat.trans (by rw [arrv_size]))) ?_; with_reducible rfl)
  (try simp only [Act.put, List.setIfInBounds_toArray, List.set_cons_zero, List.set_cons_succ])
  refine wpAnyM_take2 4 3 (v := ?_) rfl (by kernel_rfl) (fun _ _ _ h => h) (Or.inl ⟨by rfl, ?_⟩) (by assumption) ?_
  rotate_left
  · (intro wz hSw; refine Eq.trans (run_load_row 23 (.tmp 5) (by rfl) (w.heap.size + 1 + 1) (by rfl) _ _ _ _ (hSw.2.2) Try.underlying23 rfl (icol.trans (by rw [arrv_size]))) ?_; with_reducible rfl)
  (try simp only [Act.put, List.setIfInBounds_toArray, List.set_cons_zero, List.set_cons_succ])
  refine wpAnyM_take 5 (v := ?_) rfl (by kernel_rfl) (fun _ _ _ h => h) (Or.inl ⟨by rfl, ?_⟩) (by assumption) ?_
  rotate_left
  · (intro wx hSw; (try dsimp only at hSw); go_simp; (try with_reducible rfl))
  (try simp only [Act.put, List.setIfInBounds_toArray, List.set_cons_zero, List.set_cons_succ])
  refine wpAnyM_take 6 (v := ?_) rfl (by kernel_rfl) (fun _ _ _ h => h) (Or.inl ⟨by rfl, ?_⟩) (by assumption) ?_
  rotate_left
  · (intro wz hSw; refine Eq.trans (run_load_row 25 (.tmp 3) (by rfl) (w.heap.size) (by rfl) _ _ _ _ (hSw.1) Try.underlying25 rfl (icov.trans (by rw [arrv_size]))) ?_; with_reducible rfl)
  (try simp only [Act.put, List.setIfInBounds_toArray, List.set_cons_zero, List.set_cons_succ])
  refine wpAnyM_take 7 (v := ?_) rfl (by kernel_rfl) (fun _ _ _ h => h) (Or.inl ⟨by rfl, ?_⟩) (by assumption) ?_
  rotate_left
  · (intro wz hSw; refine Eq.trans (run_load_row 23 (.tmp 5) (by rfl) (w.heap.size + 1 + 1) (by rfl) _ _ _ _ (hSw.2.2) Try.underlying23 rfl (icol.trans (by rw [arrv_size]))) ?_; with_reducible rfl)
  (try simp only [Act.put, List.setIfInBounds_toArray, List.set_cons_zero, List.set_cons_succ])
  refine wpAnyM_oneS 4 rfl (by kernel_rfl) (fun K hK => ?_)
  go_simp
  (refine ST.out.mono ?_); rintro e w4 ⟨rfl, hu4⟩; have S4 := (show _ ∧ _ ∧ _ from ⟨p0.drew.upd hu4 m0, p1.drew.upd hu4 m1, p2.drew.upd hu4 m2⟩); have U4 := Lib.hid hu4; have c4 := hu4.cellc k0; have c5 := (hu4.cell (a := ⟨bc + 1, 0, none⟩) (by simp; omega) (by simp)).trans k2; have c6 := (hu4.frozen (a := ⟨bc + 1, 0, none⟩) (by simp; omega)).trans k3; have G4 := G3.drew.upd hu4 (by simp); clear hu4
  (try dsimp only)
  (try simp only [Act.put, List.setIfInBounds_toArray, List.set_cons_zero, List.set_cons_succ])
  clear hHeld
  refine hK.out _ _ ?_ (fun hHeld => ?_)
  · exact S4
  clear hK K
  (try simp only [Act.put, List.setIfInBounds_toArray, List.set_cons_zero, List.set_cons_succ])
  refine wpAnyM_one 8 rfl (by kernel_rfl) (fun K hK => ?_)
  go_simp
  (refine (RT.out _ c5 c6 G4).mono ?_); rintro e w5 ⟨rfl, hu5⟩; have d4 := hu5.cellc c5; have d5 := (hu5.cell (a := ⟨bc, 0, none⟩) (by have := World.block_lt_of_cell? _ _ c4; exact this) (by simp)).trans c4; have U5 := Lib.hid hu5; clear hu5
  (try dsimp only)
  (try simp only [Act.put, List.setIfInBounds_toArray, List.set_cons_zero, List.set_cons_succ])
  refine hK.out _ _ (.inl (by kernel_rfl)) (fun _ => ?_)
  clear hK K
  (try simp only [Act.put, List.setIfInBounds_toArray, List.set_cons_zero, List.set_cons_succ])
  refine wpAnyM_switch (fun (w' : World) => w'.cell? ⟨bc, 0, none⟩ = some (.bool SH) ∧ w'.cell? ⟨bc + 1, 0, none⟩ = some (.bool SH)) 22 (by kernel_rfl) ?_ (fun hHeld => ?_)
  · exact ⟨d5, d4⟩
  refine wpAnyM_take 9 (v := ?_) rfl (by kernel_rfl) (fun _ _ _ h => h) (Or.inl ⟨by rfl, ?_⟩) (by assumption) ?_
  rotate_left
  · (intro wz hSw; refine Eq.trans (run_op_eqlCov (.tmp 21) (.tmp 25) (by rfl) (by rfl) (by rfl) (covB_self SF)) ?_; with_reducible rfl)
  (try simp only [Act.put, List.setIfInBounds_toArray, List.set_cons_zero, List.set_cons_succ])
  refine wpAnyM_take 10 (v := ?_) rfl (by kernel_rfl) (fun _ _ _ h => h) (Or.inl ⟨by rfl, ?_⟩) (by assumption) ?_
  rotate_left
  · (intro wx hSw; (try dsimp only at hSw); go_simp; (try with_reducible rfl))
  (try simp only [Act.put, List.setIfInBounds_toArray, List.set_cons_zero, List.set_cons_succ])
  first | (refine wpAnyM_take 11 (v := ?_) rfl (by kernel_rfl) (fun _ _ _ h => h) (Or.inl ⟨by rfl, ?_⟩) (by assumption) ?_; rotate_left; focus ((intro wx hSw; (try dsimp only at hSw); go_simp; (try with_reducible rfl)))) | (refine wpAnyM_take 11 rfl (by kernel_rfl) (fun _ _ _ h => h) (Or.inr ⟨by rfl, rfl⟩) (by assumption) ?_)
  (try simp only [Act.put, List.setIfInBounds_toArray, List.set_cons_zero, List.set_cons_succ])
  first | (refine wpAnyM_take 12 (v := ?_) rfl (by kernel_rfl) (fun _ _ _ h => h) (Or.inl ⟨by rfl, ?_⟩) (by assumption) ?_; rotate_left; focus ((intro wx hSw; (try dsimp only at hSw); go_simp; (try with_reducible rfl)))) | (refine wpAnyM_take 12 rfl (by kernel_rfl) (fun _ _ _ h => h) (Or.inr ⟨by rfl, rfl⟩) (by assumption) ?_)
  (try simp only [Act.put, List.setIfInBounds_toArray, List.set_cons_zero, List.set_cons_succ])
  first | (refine wpAnyM_take 13 (v := ?_) rfl (by kernel_rfl) (fun _ _ _ h => h) (Or.inl ⟨by rfl, ?_⟩) (by assumption) ?_; rotate_left; focus ((intro wx hSw; (try dsimp only at hSw); go_simp; (try with_reducible rfl)))) | (refine wpAnyM_take 13 rfl (by kernel_rfl) (fun _ _ _ h => h) (Or.inr ⟨by rfl, rfl⟩) (by assumption) ?_)
  (try simp only [Act.put, List.setIfInBounds_toArray, List.set_cons_zero, List.set_cons_succ])
  first | (refine wpAnyM_take 14 (v := ?_) rfl (by kernel_rfl) (fun _ _ _ h => h) (Or.inl ⟨by rfl, ?_⟩) (by assumption) ?_; rotate_left; focus ((intro wz hSw; obtain ⟨s1, s2⟩ := hSw; go_simp; (try with_reducible rfl)))) | (refine wpAnyM_take 14 rfl (by kernel_rfl) (fun _ _ _ h => h) (Or.inr ⟨by rfl, rfl⟩) (by assumption) ?_)
  (try simp only [Act.put, List.setIfInBounds_toArray, List.set_cons_zero, List.set_cons_succ])
  first | (refine wpAnyM_take 15 (v := ?_) rfl (by kernel_rfl) (fun _ _ _ h => h) (Or.inl ⟨by rfl, ?_⟩) (by assumption) ?_; rotate_left; focus ((intro wx hSw; (try dsimp only at hSw); go_simp; (try with_reducible rfl)))) | (refine wpAnyM_take 15 rfl (by kernel_rfl) (fun _ _ _ h => h) (Or.inr ⟨by rfl, rfl⟩) (by assumption) ?_)
  (try simp only [Act.put, List.setIfInBounds_toArray, List.set_cons_zero, List.set_cons_succ])
  first | (refine wpAnyM_take 16 (v := ?_) rfl (by kernel_rfl) (fun _ _ _ h => h) (Or.inl ⟨by rfl, ?_⟩) (by assumption) ?_; rotate_left; focus ((intro wx hSw; (try dsimp only at hSw); go_simp; (try with_reducible rfl)))) | (refine wpAnyM_take 16 rfl (by kernel_rfl) (fun _ _ _ h => h) (Or.inr ⟨by rfl, rfl⟩) (by assumption) ?_)
  (try simp only [Act.put, List.setIfInBounds_toArray, List.set_cons_zero, List.set_cons_succ])
  first | (refine wpAnyM_take 17 (v := ?_) rfl (by kernel_rfl) (fun _ _ _ h => h) (Or.inl ⟨by rfl, ?_⟩) (by assumption) ?_; rotate_left; focus ((intro wx hSw; (try dsimp only at hSw); go_simp; (try with_reducible rfl)))) | (refine wpAnyM_take 17 rfl (by kernel_rfl) (fun _ _ _ h => h) (Or.inr ⟨by rfl, rfl⟩) (by assumption) ?_)
  (try simp only [Act.put, List.setIfInBounds_toArray, List.set_cons_zero, List.set_cons_succ])
  first | (refine wpAnyM_take 18 (v := ?_) rfl (by kernel_rfl) (fun _ _ _ h => h) (Or.inl ⟨by rfl, ?_⟩) (by assumption) ?_; rotate_left; focus ((intro wx hSw; (try dsimp only at hSw); go_simp; (try with_reducible rfl)))) | (refine wpAnyM_take 18 rfl (by kernel_rfl) (fun _ _ _ h => h) (Or.inr ⟨by rfl, rfl⟩) (by assumption) ?_)
  (try simp only [Act.put, List.setIfInBounds_toArray, List.set_cons_zero, List.set_cons_succ])
  first | (refine wpAnyM_take 19 (v := ?_) rfl (by kernel_rfl) (fun _ _ _ h => h) (Or.inl ⟨by rfl, ?_⟩) (by assumption) ?_; rotate_left; focus ((intro wz hSw; obtain ⟨s1, s2⟩ := hSw; go_simp; (try with_reducible rfl)))) | (refine wpAnyM_take 19 rfl (by kernel_rfl) (fun _ _ _ h => h) (Or.inr ⟨by rfl, rfl⟩) (by assumption) ?_)
  (try simp only [Act.put, List.setIfInBounds_toArray, List.set_cons_zero, List.set_cons_succ])
  first | (refine wpAnyM_take 20 (v := ?_) rfl (by kernel_rfl) (fun _ _ _ h => h) (Or.inl ⟨by rfl, ?_⟩) (by assumption) ?_; rotate_left; focus ((intro wz hSw; go_simp; (try with_reducible rfl)))) | (refine wpAnyM_take 20 rfl (by kernel_rfl) (fun _ _ _ h => h) (Or.inr ⟨by rfl, rfl⟩) (by assumption) ?_)
  (try simp only [Act.put, List.setIfInBounds_toArray, List.set_cons_zero, List.set_cons_succ])
  refine wpAnyM_take 21 (v := ?_) rfl (by kernel_rfl) (fun _ _ _ h => h) (Or.inl ⟨by rfl, ?_⟩) (by assumption) ?_
  rotate_left
  · (intro wx hSw; (try dsimp only at hSw); go_simp; (try with_reducible rfl))
  (try simp only [Act.put, List.setIfInBounds_toArray, List.set_cons_zero, List.set_cons_succ])
  refine wpAnyM_one 22 rfl (by kernel_rfl) (fun K hK => ?_)
  go_simp
  refine hK.out _ _ (.inl (by kernel_rfl)) (fun _ => ?_)
  clear hK K
  (try simp only [Act.put, List.setIfInBounds_toArray, List.set_cons_zero, List.set_cons_succ])
  refine wpAnyM_switch (fun (w' : World) => w'.cell? ⟨bc, 0, none⟩ = some (.bool SH) ∧ w'.cell? ⟨bc + 1, 0, none⟩ = some (.bool SH)) 22 (by kernel_rfl) ?_ (fun hHeld => ?_)
  · exact ⟨d5, d4⟩
  refine wpAnyM_done (by kernel_rfl) ?_ _
  go_wp2_with fail
  go_ret
  exact ⟨rfl, own_upd (own_upd (Below.trans A3.out (Below.drew (Below.refl _ _))) (by simp; omega) U4.out) (by simp; omega) U5.out⟩
end Go.Proofs.Ytokcnjadknonmaa
