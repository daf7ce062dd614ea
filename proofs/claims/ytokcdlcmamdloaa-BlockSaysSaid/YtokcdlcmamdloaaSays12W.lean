/- The walk of the law BlockSays. -/
import Derived.Test.YtokcdlcmamdloaaRk4
import Derived.Test.YtokcdlcmamdloaaQ06
import Derived.Test.YtokcdlcmamdloaaQ07
import Derived.Test.YtokcdlcmamdloaaQ11
namespace Go.Proofs.Ytokcdlcmamdloaa
open Go.RowKit
set_option maxRecDepth 100000
open Go in
/-- '!=' of two covariances. -/
theorem run_op_neqCov2 {o : Oper} {ev : Operand → Value} {w : World} (x y : Operand) (ho : o.op = .binOp .neq 25 x y 25) {f g : Nat → Int} (hx : ev x = .agg (arrv 300 f)) (hy : ev y = .agg (arrv 300 g)) {b : Bool} (hb : covB f g = b) :
    (execOp ev o).run Try.prog w = .ok (.value (.bool (!b))) w := by
  have e := run_equal_cov w f g
  have hG : Try.prog.eqGuardType Try.prog.depth 25 = false := by kernel_rfl
  unfold execOp
  simp only [ho, hx, hy, eqGuard, binOp, Sem.run_bind, Sem.run_pure, Result.andThen_ok]
  simp [hG, e, hb, go_sem]
/-- The factors' block and the two flags. -/
structure SbR (p : Nat → Int) (bc : Nat) (x y : Bool) (w wr : World) : Prop where
  below : Below w.heap.size w wr
  pB : Blk wr w.heap.size 25 300 p
  c0 : wr.cell? ⟨bc, 0, none⟩ = some (.bool x)
  f0 : wr.frozen? ⟨bc, 0, none⟩ = false
  c1 : wr.cell? ⟨bc + 1, 0, none⟩ = some (.bool y)
  f1 : wr.frozen? ⟨bc + 1, 0, none⟩ = false
  ord : w.heap.size < bc
section
variable {p : Nat → Int} {bc : Nat} {x y z : Bool} {w wr w' : World}
theorem SbR.down (s : SbR p bc x y w wr) (b : Below wr.heap.size wr w') : SbR p bc x y w w' :=
  ⟨s.below.trans (b.mono s.below.size), s.pB.below b, (b.cell (World.block_lt_of_cell? _ _ s.c0)).trans s.c0, (b.frozen (World.block_lt_of_cell? _ _ s.c0)).trans s.f0, (b.cell (World.block_lt_of_cell? _ _ s.c1)).trans s.c1, (b.frozen (World.block_lt_of_cell? _ _ s.c1)).trans s.f1, s.ord⟩
theorem SbR.drew (s : SbR p bc x y w wr) : SbR p bc x y w wr.drew := s.down (Below.drew (Below.refl _ _))
theorem SbR.alloc (s : SbR p bc x y w wr) (o : Obj) : SbR p bc x y w (wr.alloc o) := s.down ((Below.refl _ _).alloc (Nat.le_refl _) o)
theorem SbR.upd0 (s : SbR p bc x y w wr) (u : Upd ⟨bc, 0, none⟩ z wr w') : SbR p bc z y w w' := by
  have h := s.ord
  have hb1 := World.block_lt_of_cell? _ _ s.c1
  exact ⟨own_upd s.below (by simp; omega) u, s.pB.upd u (by simp; omega), u.cellc s.c0, (u.frozen (World.block_lt_of_cell? _ _ s.c0)).trans s.f0, (u.cell hb1 (by simp)).trans s.c1, (u.frozen hb1).trans s.f1, h⟩
theorem SbR.upd1 (s : SbR p bc x y w wr) (u : Upd ⟨bc + 1, 0, none⟩ z wr w') : SbR p bc x z w w' := by
  have h := s.ord
  have hb0 := World.block_lt_of_cell? _ _ s.c0
  exact ⟨own_upd s.below (by simp; omega) u, s.pB.upd u (by simp; omega), (u.cell hb0 (by simp)).trans s.c0, (u.frozen hb0).trans s.f0, u.cellc s.c1, (u.frozen (World.block_lt_of_cell? _ _ s.c1)).trans s.f1, h⟩
theorem sb_fresh (b : Below w.heap.size w wr) (hp : Blk wr w.heap.size 25 300 p) : SbR p wr.heap.size false false w ((wr.alloc (.cells #[.bool false] 31)).alloc (.cells #[.bool false] 35)) :=
  ⟨(b.alloc b.size _).alloc (by have := b.size; simp; omega) _, (hp.alloc _).alloc _, by simp [go_sem], by simp [go_sem], by simp [go_sem], by simp [go_sem], hp.lt⟩
end
set_option maxHeartbeats 8000000 in
theorem says12_noop (p : Nat → Int) (fr : Int) (q q' : Option Addr) (n cp n' cp' : Nat) (w : World) (h : 30 < n ∨ (n ≤ 30 ∧ 30 < n') ∨ (n ≤ 30 ∧ n' ≤ 30 ∧ fr < -900) ∨ (n ≤ 30 ∧ n' ≤ 30 ∧ -900 ≤ fr ∧ 900 < fr)) :
    Calls Try.prog 5 #[.agg (arrv 300 p), .int .i64 fr, .slice q n cp, .slice q' n' cp'] w fun e w' => e = .returned (.bool true) ∧ Below w.heap.size w w' := by
  have B0 := Lib.hid (show Below w.heap.size w (w.alloc (.cells (arrv 300 p) 25)) by (repeat (first | with_reducible exact Below.refl _ _ | with_reducible apply Below.drew | (with_reducible refine below_drewN ?_ _) | (with_reducible refine Below.alloc ?_ (by (try simp) <;> omega) _) | (with_reducible refine Below.setCell ?_ (by (try simp) <;> omega) _))))
  have hc : (decide ((30 : Int) < (n : Int)) = true) ∨ (decide ((30 : Int) < (n : Int)) = false ∧ decide ((30 : Int) < (n' : Int)) = true) ∨ (decide ((30 : Int) < (n : Int)) = false ∧ decide ((30 : Int) < (n' : Int)) = false ∧ decide (fr < -900) = true) ∨ (decide ((30 : Int) < (n : Int)) = false ∧ decide ((30 : Int) < (n' : Int)) = false ∧ decide (fr < -900) = false ∧ decide (900 < fr) = true) := by
    rcases h with h | ⟨h, h1⟩ | ⟨h, h1, h2⟩ | ⟨h, h1, h2, h3⟩
    · exact .inl (by simp; omega)
    · exact .inr (.inl ⟨by simp; omega, by simp; omega⟩)
    · exact .inr (.inr (.inl ⟨by simp; omega, by simp; omega, by simp; omega⟩))
    · exact .inr (.inr (.inr ⟨by simp; omega, by simp; omega, by simp; omega, by simp; omega⟩))
  clear h
  rcases hc with d1 | ⟨d1, d2⟩ | ⟨d1, d2, d3⟩ | ⟨d1, d2, d3, d4⟩
  all_goals
    go_enter Try.func5, Try.ntmps5
    go_wp2_with (go_at_call 17; (refine (awake12_any _).mono ?_); rintro e w1 ⟨rfl, hb1⟩; have B1 := Lib.hid (Below.after B0.out hb1); clear hb1)
    go_ret
    exact ⟨rfl, B1.out⟩
set_option maxHeartbeats 20000000 in
theorem says12_main (p : Nat → Int) (fr : Int) (q q' : Option Addr) (n cp n' cp' : Nat) (L M : Nat → Int) (w : World) (hn : n ≤ 30) (hn' : n' ≤ 30) (hfr : -900 ≤ fr ∧ fr ≤ 900) (hL : Slc w q n L) (hM : Slc w q' n' M) :
    Calls Try.prog 5 #[.agg (arrv 300 p), .int .i64 fr, .slice q n cp, .slice q' n' cp'] w fun e w' => e = .returned (.bool true) ∧ Below w.heap.size w w' := by
  have d1 : decide ((30 : Int) < (n : Int)) = false := by simp; omega
  have d2 : decide ((30 : Int) < (n' : Int)) = false := by simp; omega
  have d3 : decide (fr < -900) = false := by simp; omega
  have d4 : decide (900 < fr) = false := by simp; omega
  have HL := Lib.hid hL
  have HM := Lib.hid hM
  have HN := Lib.hid (And.intro hn (And.intro hn' hfr))
  clear hL hM hn hn' hfr
  go_enter Try.func5, Try.ntmps5
  have B0 := Lib.hid (show Below w.heap.size w (w.alloc (.cells (arrv 300 p) 25)) by (repeat (first | with_reducible exact Below.refl _ _ | with_reducible apply Below.drew | (with_reducible refine below_drewN ?_ _) | (with_reducible refine Below.alloc ?_ (by (try simp) <;> omega) _) | (with_reducible refine Below.setCell ?_ (by (try simp) <;> omega) _))))
  have P0 := Lib.hid (show Blk (w.alloc (.cells (arrv 300 p) 25)) w.heap.size 25 300 p from Blk.new w _ _ _)
  go_upto_region 5 with (go_at_call 17; (refine (awake12_any _).mono ?_); rintro e w1 ⟨rfl, hb1⟩; have S1 := Lib.hid (And.intro (Below.after B0.out hb1) (P0.out.below hb1)); clear hb1)
  clear B0 P0 d1 d2 d3 d4
  have S7 := Lib.hid (sb_fresh S1.out.1 S1.out.2)
  go_upto_region 7 with fail
  obtain ⟨bc, hbc⟩ : ∃ x, w1.heap.size = x := ⟨_, rfl⟩
  rw [hbc] at S7 ⊢
  generalize (w1.alloc (.cells #[.bool false] 31)).alloc (.cells #[.bool false] 35) = W7 at *
  clear S1 hbc
  have RC := Lib.hid (fun (x : World) (qq : Option Addr) (cc : Nat) (a1 : x.cell? ⟨bc, 0, none⟩ = some (.bool false)) (a2 : x.frozen? ⟨bc, 0, none⟩ = false) (a3 : Slc x qq n L) => reset_any ⟨bc, 0, none⟩ false p fr qq n cc L x a1 a2 a3 (by have := HN.out; omega) (by have := HN.out; omega))
  have RR := Lib.hid (fun (x : World) (a1 : x.cell? ⟨bc + 1, 0, none⟩ = some (.bool false)) (a2 : x.frozen? ⟨bc + 1, 0, none⟩ = false) (a3 : Slc x q n L) => rreset_any ⟨bc + 1, 0, none⟩ false p fr q n cp L x a1 a2 a3 HN.out.2.2 (by have := HN.out; omega))
  obtain ⟨SF, hSF⟩ : ∃ x, stepF p (rtF fr n) (rtQ fr L n) = x := ⟨_, rfl⟩
  obtain ⟨SH, hSH⟩ : ∃ x, (false || orB (rtB fr L) n || stepH p (rtF fr n) (rtQ fr L n)) = x := ⟨_, rfl⟩
  simp only [hSF, hSH] at RC RR
  clear hSF hSH
  have H7 := Lib.hid S7.out.drew
  refine wp_region_M (fun w' => Blk w' w.heap.size 25 300 p) 11 (by kernel_rfl) ?_ (fun hHeld => ?_)
  · exact H7.out.pB
  refine wpAnyM_takeX [6, 11, 12, 13, 14, 15, 16, 17, 18, 19, 20, 21, 22, 23, 24] 0 (v := ?_) rfl (by kernel_rfl) (fun _ _ _ h => h) (Or.inl ⟨by rfl, ?_⟩) (by assumption) ?_
  rotate_left
  · (intro wx hSw; (try dsimp only at hSw); go_simp; (try with_reducible rfl))
  (try simp only [Act.put, List.setIfInBounds_toArray, List.set_cons_zero, List.set_cons_succ])
  refine wpAnyM_takeX [6, 11, 12, 13, 14, 15, 16, 17, 18, 19, 20, 21, 22, 23, 24] 1 (v := ?_) rfl (by kernel_rfl) (fun _ _ _ h => h) (Or.inl ⟨by rfl, ?_⟩) (by assumption) ?_
  rotate_left
  · (intro wz hSw; refine Eq.trans (run_load_row 25 (.tmp 4) (by rfl) (w.heap.size) (by rfl) _ _ _ _ (hSw) Try.underlying25 rfl (icov.trans (by rw [arrv_size]))) ?_; with_reducible rfl)
  (try simp only [Act.put, List.setIfInBounds_toArray, List.set_cons_zero, List.set_cons_succ])
  refine wpAnyM_takeX [6, 11, 12, 13, 14, 15, 16, 17, 18, 19, 20, 21, 22, 23, 24] 2 (v := ?_) rfl (by kernel_rfl) (fun _ _ _ h => h) (Or.inl ⟨by rfl, ?_⟩) (by assumption) ?_
  rotate_left
  · (intro wx hSw; (try dsimp only at hSw); go_simp; (try with_reducible rfl))
  (try simp only [Act.put, List.setIfInBounds_toArray, List.set_cons_zero, List.set_cons_succ])
  refine wpAnyM_takeX [5, 6, 11, 12, 13, 14, 15, 16, 17, 18, 19, 20, 21, 22, 23, 24] 4 (v := ?_) rfl (by kernel_rfl) (fun _ _ _ h => h) (Or.inl ⟨by rfl, ?_⟩) (by assumption) ?_
  rotate_left
  · (intro wx hSw; (try dsimp only at hSw); go_simp; (try with_reducible rfl))
  (try simp only [Act.put, List.setIfInBounds_toArray, List.set_cons_zero, List.set_cons_succ])
  refine wpAnyM_take 7 (v := ?_) rfl (by kernel_rfl) (fun _ _ _ h => h) (Or.inl ⟨by rfl, ?_⟩) (by assumption) ?_
  rotate_left
  · (intro wx hSw; (try dsimp only at hSw); go_simp; (try with_reducible rfl))
  (try simp only [Act.put, List.setIfInBounds_toArray, List.set_cons_zero, List.set_cons_succ])
  refine wpAnyM_take 8 (v := ?_) rfl (by kernel_rfl) (fun _ _ _ h => h) (Or.inl ⟨by rfl, ?_⟩) (by assumption) ?_
  rotate_left
  · (intro wz hSw; refine Eq.trans (run_load_row 25 (.tmp 4) (by rfl) (w.heap.size) (by rfl) _ _ _ _ (hSw) Try.underlying25 rfl (icov.trans (by rw [arrv_size]))) ?_; with_reducible rfl)
  (try simp only [Act.put, List.setIfInBounds_toArray, List.set_cons_zero, List.set_cons_succ])
  refine wpAnyM_take 9 (v := ?_) rfl (by kernel_rfl) (fun _ _ _ h => h) (Or.inl ⟨by rfl, ?_⟩) (by assumption) ?_
  rotate_left
  · (intro wx hSw; (try dsimp only at hSw); go_simp; (try with_reducible rfl))
  (try simp only [Act.put, List.setIfInBounds_toArray, List.set_cons_zero, List.set_cons_succ])
  refine wpAnyM_take 10 (v := ?_) rfl (by kernel_rfl) (fun _ _ _ h => h) (Or.inl ⟨by rfl, ?_⟩) (by assumption) ?_
  rotate_left
  · (intro wx hSw; (try dsimp only at hSw); go_simp; (try with_reducible rfl))
  (try simp only [Act.put, List.setIfInBounds_toArray, List.set_cons_zero, List.set_cons_succ])
  refine wpAnyM_oneS 3 rfl (by kernel_rfl) (fun K hK => ?_)
  rw [if_pos (by rfl)]; refine wp_bsl0_i64 (by rfl) ?_; have T1 := Lib.hid (H7.out.alloc (.cells #[] 2))
  clear hHeld
  refine hK.out _ _ ?_ (fun hHeld => ?_)
  · exact T1.out.pB
  clear hK K
  (try simp only [Act.put, List.setIfInBounds_toArray, List.set_cons_zero, List.set_cons_succ])
  refine wpAnyM_oneS 5 rfl (by kernel_rfl) (fun K hK => ?_)
  rw [if_pos (by rfl)]; refine wp_appAll_i64 (.tmp 36) (.tmp 37) (by rfl) _ q n cp L (by rfl) (by rfl) (HL.out.below T1.out.below) (by have := HN.out; omega) ?_; intro q2 cp2 v2 hb2 hs2; have T2 := Lib.hid (T1.out.down hb2); have Q2 := Lib.hid hs2
  clear hHeld
  refine hK.out _ _ ?_ (fun hHeld => ?_)
  · exact T2.out.pB
  clear hK K
  (try simp only [Act.put, List.setIfInBounds_toArray, List.set_cons_zero, List.set_cons_succ])
  refine wpAnyM_oneS 6 rfl (by kernel_rfl) (fun K hK => ?_)
  go_simp
  (refine (RC.out _ _ _ T2.out.c0 T2.out.f0 Q2.out).mono ?_); rintro e v3 ⟨rfl, hu3⟩; have T3 := Lib.hid (T2.out.upd0 hu3)
  (try dsimp only)
  (try simp only [Act.put, List.setIfInBounds_toArray, List.set_cons_zero, List.set_cons_succ])
  clear hHeld
  refine hK.out _ _ ?_ (fun hHeld => ?_)
  · exact T3.out.pB
  clear hK K
  (try simp only [Act.put, List.setIfInBounds_toArray, List.set_cons_zero, List.set_cons_succ])
  refine wpAnyM_one 11 rfl (by kernel_rfl) (fun K hK => ?_)
  go_simp
  (refine (RR.out _ T3.out.c1 T3.out.f1 (HL.out.below T3.out.below)).mono ?_); rintro e v4 ⟨rfl, hu4⟩; have T4 := Lib.hid (T3.out.upd1 hu4)
  (try dsimp only)
  (try simp only [Act.put, List.setIfInBounds_toArray, List.set_cons_zero, List.set_cons_succ])
  refine hK.out _ _ (.inl (by kernel_rfl)) (fun _ => ?_)
  clear hK K
  (try simp only [Act.put, List.setIfInBounds_toArray, List.set_cons_zero, List.set_cons_succ])
  refine wpAnyM_switch (fun (w' : World) => w'.cell? ⟨bc, 0, none⟩ = some (.bool SH) ∧ w'.cell? ⟨bc + 1, 0, none⟩ = some (.bool SH)) 24 (by kernel_rfl) ?_ (fun hHeld => ?_)
  · exact ⟨T4.out.c0, T4.out.c1⟩
  refine wpAnyM_takeX [13, 14, 15, 16, 17, 18, 19, 20, 21, 22, 23, 24] 12 (v := ?_) rfl (by kernel_rfl) (fun _ _ _ h => h) (Or.inl ⟨by rfl, ?_⟩) (by assumption) ?_
  rotate_left
  · (intro wz hSw; refine Eq.trans (run_op_neqCov2 (.tmp 39) (.tmp 44) (by rfl) (by rfl) (by rfl) (covB_self SF)) ?_; with_reducible rfl)
  (try simp only [Act.put, List.setIfInBounds_toArray, List.set_cons_zero, List.set_cons_succ])
  refine wpAnyM_take 13 (v := ?_) rfl (by kernel_rfl) (fun _ _ _ h => h) (Or.inl ⟨by rfl, ?_⟩) (by assumption) ?_
  rotate_left
  · (intro wx hSw; (try dsimp only at hSw); go_simp; (try with_reducible rfl))
  (try simp only [Act.put, List.setIfInBounds_toArray, List.set_cons_zero, List.set_cons_succ])
  first | (refine wpAnyM_takeX [15, 16, 17, 23, 24] 14 (v := ?_) rfl (by kernel_rfl) (fun _ _ _ h => h) (Or.inl ⟨by rfl, ?_⟩) (by assumption) ?_; rotate_left; focus ((intro wx hSw; (try dsimp only at hSw); go_simp; (try with_reducible rfl)))) | (refine wpAnyM_takeX [15, 16, 17, 23, 24] 14 rfl (by kernel_rfl) (fun _ _ _ h => h) (Or.inr ⟨by rfl, rfl⟩) (by assumption) ?_)
  (try simp only [Act.put, List.setIfInBounds_toArray, List.set_cons_zero, List.set_cons_succ])
  first | (refine wpAnyM_takeX [16, 17, 23, 24] 15 (v := ?_) rfl (by kernel_rfl) (fun _ _ _ h => h) (Or.inl ⟨by rfl, ?_⟩) (by assumption) ?_; rotate_left; focus ((intro wx hSw; (try dsimp only at hSw); go_simp; (try with_reducible rfl)))) | (refine wpAnyM_takeX [16, 17, 23, 24] 15 rfl (by kernel_rfl) (fun _ _ _ h => h) (Or.inr ⟨by rfl, rfl⟩) (by assumption) ?_)
  (try simp only [Act.put, List.setIfInBounds_toArray, List.set_cons_zero, List.set_cons_succ])
  first | (refine wpAnyM_takeX [17, 23, 24] 16 (v := ?_) rfl (by kernel_rfl) (fun _ _ _ h => h) (Or.inl ⟨by rfl, ?_⟩) (by assumption) ?_; rotate_left; focus ((intro wx hSw; (try dsimp only at hSw); go_simp; (try with_reducible rfl)))) | (refine wpAnyM_takeX [17, 23, 24] 16 rfl (by kernel_rfl) (fun _ _ _ h => h) (Or.inr ⟨by rfl, rfl⟩) (by assumption) ?_)
  (try simp only [Act.put, List.setIfInBounds_toArray, List.set_cons_zero, List.set_cons_succ])
  first | (refine wpAnyM_takeX [23, 24] 17 (v := ?_) rfl (by kernel_rfl) (fun _ _ _ h => h) (Or.inl ⟨by rfl, ?_⟩) (by assumption) ?_; rotate_left; focus ((intro wz hSw; obtain ⟨s1, s2⟩ := hSw; go_simp; (try with_reducible rfl)))) | (refine wpAnyM_takeX [23, 24] 17 rfl (by kernel_rfl) (fun _ _ _ h => h) (Or.inr ⟨by rfl, rfl⟩) (by assumption) ?_)
  (try simp only [Act.put, List.setIfInBounds_toArray, List.set_cons_zero, List.set_cons_succ])
  first | (refine wpAnyM_takeX [19, 20, 21, 22, 23, 24] 18 (v := ?_) rfl (by kernel_rfl) (fun _ _ _ h => h) (Or.inl ⟨by rfl, ?_⟩) (by assumption) ?_; rotate_left; focus ((intro wx hSw; (try dsimp only at hSw); go_simp; (try with_reducible rfl)))) | (refine wpAnyM_takeX [19, 20, 21, 22, 23, 24] 18 rfl (by kernel_rfl) (fun _ _ _ h => h) (Or.inr ⟨by rfl, rfl⟩) (by assumption) ?_)
  (try simp only [Act.put, List.setIfInBounds_toArray, List.set_cons_zero, List.set_cons_succ])
  first | (refine wpAnyM_takeX [20, 21, 22, 23, 24] 19 (v := ?_) rfl (by kernel_rfl) (fun _ _ _ h => h) (Or.inl ⟨by rfl, ?_⟩) (by assumption) ?_; rotate_left; focus ((intro wx hSw; (try dsimp only at hSw); go_simp; (try with_reducible rfl)))) | (refine wpAnyM_takeX [20, 21, 22, 23, 24] 19 rfl (by kernel_rfl) (fun _ _ _ h => h) (Or.inr ⟨by rfl, rfl⟩) (by assumption) ?_)
  (try simp only [Act.put, List.setIfInBounds_toArray, List.set_cons_zero, List.set_cons_succ])
  first | (refine wpAnyM_takeX [21, 22, 23, 24] 20 (v := ?_) rfl (by kernel_rfl) (fun _ _ _ h => h) (Or.inl ⟨by rfl, ?_⟩) (by assumption) ?_; rotate_left; focus ((intro wx hSw; (try dsimp only at hSw); go_simp; (try with_reducible rfl)))) | (refine wpAnyM_takeX [21, 22, 23, 24] 20 rfl (by kernel_rfl) (fun _ _ _ h => h) (Or.inr ⟨by rfl, rfl⟩) (by assumption) ?_)
  (try simp only [Act.put, List.setIfInBounds_toArray, List.set_cons_zero, List.set_cons_succ])
  first | (refine wpAnyM_takeX [22, 23, 24] 21 (v := ?_) rfl (by kernel_rfl) (fun _ _ _ h => h) (Or.inl ⟨by rfl, ?_⟩) (by assumption) ?_; rotate_left; focus ((intro wx hSw; (try dsimp only at hSw); go_simp; (try with_reducible rfl)))) | (refine wpAnyM_takeX [22, 23, 24] 21 rfl (by kernel_rfl) (fun _ _ _ h => h) (Or.inr ⟨by rfl, rfl⟩) (by assumption) ?_)
  (try simp only [Act.put, List.setIfInBounds_toArray, List.set_cons_zero, List.set_cons_succ])
  first | (refine wpAnyM_takeX [23, 24] 22 (v := ?_) rfl (by kernel_rfl) (fun _ _ _ h => h) (Or.inl ⟨by rfl, ?_⟩) (by assumption) ?_; rotate_left; focus ((intro wz hSw; obtain ⟨s1, s2⟩ := hSw; go_simp; (try with_reducible rfl)))) | (refine wpAnyM_takeX [23, 24] 22 rfl (by kernel_rfl) (fun _ _ _ h => h) (Or.inr ⟨by rfl, rfl⟩) (by assumption) ?_)
  (try simp only [Act.put, List.setIfInBounds_toArray, List.set_cons_zero, List.set_cons_succ])
  first | (refine wpAnyM_take 23 (v := ?_) rfl (by kernel_rfl) (fun _ _ _ h => h) (Or.inl ⟨by rfl, ?_⟩) (by assumption) ?_; rotate_left; focus ((intro wx hSw; (try dsimp only at hSw); go_simp; (try with_reducible rfl)))) | (refine wpAnyM_take 23 rfl (by kernel_rfl) (fun _ _ _ h => h) (Or.inr ⟨by rfl, rfl⟩) (by assumption) ?_)
  (try simp only [Act.put, List.setIfInBounds_toArray, List.set_cons_zero, List.set_cons_succ])
  refine wpAnyM_one 24 rfl (by kernel_rfl) (fun K hK => ?_)
  go_simp
  refine hK.out _ _ (.inl (by kernel_rfl)) (fun _ => ?_)
  clear hK K
  (try simp only [Act.put, List.setIfInBounds_toArray, List.set_cons_zero, List.set_cons_succ])
  refine wpAnyM_switch (fun (w' : World) => w'.cell? ⟨bc, 0, none⟩ = some (.bool SH) ∧ w'.cell? ⟨bc + 1, 0, none⟩ = some (.bool SH)) 24 (by kernel_rfl) ?_ (fun hHeld => ?_)
  · exact ⟨T4.out.c0, T4.out.c1⟩
  refine wpAnyM_done (by kernel_rfl) ?_ _
  (try clear hHeld)
  clear RC RR H7 T1 T2 T3 hu3 hu4 hb2 hs2 Q2 S7
  have S9 := Lib.hid (sb_fresh T4.out.below T4.out.pB)
  go_upto_region 11 with fail
  obtain ⟨bc, hbc⟩ : ∃ x, v4.heap.size = x := ⟨_, rfl⟩
  rw [hbc] at S9 ⊢
  clear T4
  generalize (v4.alloc (.cells #[.bool false] 31)).alloc (.cells #[.bool false] 35) = W11 at *
  have S11 := S9
  clear S9 hbc
  have RC := Lib.hid (fun (x : World) (qq : Option Addr) (cc : Nat) (a1 : x.cell? ⟨bc, 0, none⟩ = some (.bool false)) (a2 : x.frozen? ⟨bc, 0, none⟩ = false) (a3 : Slc x qq n L) => grow_any ⟨bc, 0, none⟩ false p fr qq n cc L x a1 a2 a3 (by have := HN.out; omega) (by have := HN.out; omega))
  have RR := Lib.hid (fun (x : World) (a1 : x.cell? ⟨bc + 1, 0, none⟩ = some (.bool false)) (a2 : x.frozen? ⟨bc + 1, 0, none⟩ = false) (a3 : Slc x q n L) => rgrow_any ⟨bc + 1, 0, none⟩ false p fr q n cp L x a1 a2 a3 HN.out.2.2 (by have := HN.out; omega))
  obtain ⟨SF, hSF⟩ : ∃ x, stepF p oneF (gwQ fr L n) = x := ⟨_, rfl⟩
  obtain ⟨SH, hSH⟩ : ∃ x, (false || stepH p oneF (gwQ fr L n)) = x := ⟨_, rfl⟩
  simp only [hSF, hSH] at RC RR
  clear hSF hSH
  have H7 := Lib.hid S11.out.drew
  refine wp_region_M (fun w' => Blk w' w.heap.size 25 300 p) 11 (by kernel_rfl) ?_ (fun hHeld => ?_)
  · exact H7.out.pB
  refine wpAnyM_takeX [6, 11, 12, 13, 14, 15, 16, 17, 18, 19, 20, 21, 22, 23, 24] 0 (v := ?_) rfl (by kernel_rfl) (fun _ _ _ h => h) (Or.inl ⟨by rfl, ?_⟩) (by assumption) ?_
  rotate_left
  · (intro wx hSw; (try dsimp only at hSw); go_simp; (try with_reducible rfl))
  (try simp only [Act.put, List.setIfInBounds_toArray, List.set_cons_zero, List.set_cons_succ])
  refine wpAnyM_takeX [6, 11, 12, 13, 14, 15, 16, 17, 18, 19, 20, 21, 22, 23, 24] 1 (v := ?_) rfl (by kernel_rfl) (fun _ _ _ h => h) (Or.inl ⟨by rfl, ?_⟩) (by assumption) ?_
  rotate_left
  · (intro wz hSw; refine Eq.trans (run_load_row 25 (.tmp 4) (by rfl) (w.heap.size) (by rfl) _ _ _ _ (hSw) Try.underlying25 rfl (icov.trans (by rw [arrv_size]))) ?_; with_reducible rfl)
  (try simp only [Act.put, List.setIfInBounds_toArray, List.set_cons_zero, List.set_cons_succ])
  refine wpAnyM_takeX [6, 11, 12, 13, 14, 15, 16, 17, 18, 19, 20, 21, 22, 23, 24] 2 (v := ?_) rfl (by kernel_rfl) (fun _ _ _ h => h) (Or.inl ⟨by rfl, ?_⟩) (by assumption) ?_
  rotate_left
  · (intro wx hSw; (try dsimp only at hSw); go_simp; (try with_reducible rfl))
  (try simp only [Act.put, List.setIfInBounds_toArray, List.set_cons_zero, List.set_cons_succ])
  refine wpAnyM_takeX [5, 6, 11, 12, 13, 14, 15, 16, 17, 18, 19, 20, 21, 22, 23, 24] 4 (v := ?_) rfl (by kernel_rfl) (fun _ _ _ h => h) (Or.inl ⟨by rfl, ?_⟩) (by assumption) ?_
  rotate_left
  · (intro wx hSw; (try dsimp only at hSw); go_simp; (try with_reducible rfl))
  (try simp only [Act.put, List.setIfInBounds_toArray, List.set_cons_zero, List.set_cons_succ])
  refine wpAnyM_take 7 (v := ?_) rfl (by kernel_rfl) (fun _ _ _ h => h) (Or.inl ⟨by rfl, ?_⟩) (by assumption) ?_
  rotate_left
  · (intro wx hSw; (try dsimp only at hSw); go_simp; (try with_reducible rfl))
  (try simp only [Act.put, List.setIfInBounds_toArray, List.set_cons_zero, List.set_cons_succ])
  refine wpAnyM_take 8 (v := ?_) rfl (by kernel_rfl) (fun _ _ _ h => h) (Or.inl ⟨by rfl, ?_⟩) (by assumption) ?_
  rotate_left
  · (intro wz hSw; refine Eq.trans (run_load_row 25 (.tmp 4) (by rfl) (w.heap.size) (by rfl) _ _ _ _ (hSw) Try.underlying25 rfl (icov.trans (by rw [arrv_size]))) ?_; with_reducible rfl)
  (try simp only [Act.put, List.setIfInBounds_toArray, List.set_cons_zero, List.set_cons_succ])
  refine wpAnyM_take 9 (v := ?_) rfl (by kernel_rfl) (fun _ _ _ h => h) (Or.inl ⟨by rfl, ?_⟩) (by assumption) ?_
  rotate_left
  · (intro wx hSw; (try dsimp only at hSw); go_simp; (try with_reducible rfl))
  (try simp only [Act.put, List.setIfInBounds_toArray, List.set_cons_zero, List.set_cons_succ])
  refine wpAnyM_take 10 (v := ?_) rfl (by kernel_rfl) (fun _ _ _ h => h) (Or.inl ⟨by rfl, ?_⟩) (by assumption) ?_
  rotate_left
  · (intro wx hSw; (try dsimp only at hSw); go_simp; (try with_reducible rfl))
  (try simp only [Act.put, List.setIfInBounds_toArray, List.set_cons_zero, List.set_cons_succ])
  refine wpAnyM_oneS 3 rfl (by kernel_rfl) (fun K hK => ?_)
  rw [if_pos (by rfl)]; refine wp_bsl0_i64 (by rfl) ?_; have T1 := Lib.hid (H7.out.alloc (.cells #[] 2))
  clear hHeld
  refine hK.out _ _ ?_ (fun hHeld => ?_)
  · exact T1.out.pB
  clear hK K
  (try simp only [Act.put, List.setIfInBounds_toArray, List.set_cons_zero, List.set_cons_succ])
  refine wpAnyM_oneS 5 rfl (by kernel_rfl) (fun K hK => ?_)
  rw [if_pos (by rfl)]; refine wp_appAll_i64 (.tmp 65) (.tmp 66) (by rfl) _ q n cp L (by rfl) (by rfl) (HL.out.below T1.out.below) (by have := HN.out; omega) ?_; intro q2 cp2 v2 hb2 hs2; have T2 := Lib.hid (T1.out.down hb2); have Q2 := Lib.hid hs2
  clear hHeld
  refine hK.out _ _ ?_ (fun hHeld => ?_)
  · exact T2.out.pB
  clear hK K
  (try simp only [Act.put, List.setIfInBounds_toArray, List.set_cons_zero, List.set_cons_succ])
  refine wpAnyM_oneS 6 rfl (by kernel_rfl) (fun K hK => ?_)
  go_simp
  (refine (RC.out _ _ _ T2.out.c0 T2.out.f0 Q2.out).mono ?_); rintro e v3 ⟨rfl, hu3⟩; have T3 := Lib.hid (T2.out.upd0 hu3)
  (try dsimp only)
  (try simp only [Act.put, List.setIfInBounds_toArray, List.set_cons_zero, List.set_cons_succ])
  clear hHeld
  refine hK.out _ _ ?_ (fun hHeld => ?_)
  · exact T3.out.pB
  clear hK K
  (try simp only [Act.put, List.setIfInBounds_toArray, List.set_cons_zero, List.set_cons_succ])
  refine wpAnyM_one 11 rfl (by kernel_rfl) (fun K hK => ?_)
  go_simp
  (refine (RR.out _ T3.out.c1 T3.out.f1 (HL.out.below T3.out.below)).mono ?_); rintro e v4 ⟨rfl, hu4⟩; have T4 := Lib.hid (T3.out.upd1 hu4)
  (try dsimp only)
  (try simp only [Act.put, List.setIfInBounds_toArray, List.set_cons_zero, List.set_cons_succ])
  refine hK.out _ _ (.inl (by kernel_rfl)) (fun _ => ?_)
  clear hK K
  (try simp only [Act.put, List.setIfInBounds_toArray, List.set_cons_zero, List.set_cons_succ])
  refine wpAnyM_switch (fun (w' : World) => w'.cell? ⟨bc, 0, none⟩ = some (.bool SH) ∧ w'.cell? ⟨bc + 1, 0, none⟩ = some (.bool SH)) 24 (by kernel_rfl) ?_ (fun hHeld => ?_)
  · exact ⟨T4.out.c0, T4.out.c1⟩
  refine wpAnyM_takeX [13, 14, 15, 16, 17, 18, 19, 20, 21, 22, 23, 24] 12 (v := ?_) rfl (by kernel_rfl) (fun _ _ _ h => h) (Or.inl ⟨by rfl, ?_⟩) (by assumption) ?_
  rotate_left
  · (intro wz hSw; refine Eq.trans (run_op_neqCov2 (.tmp 68) (.tmp 73) (by rfl) (by rfl) (by rfl) (covB_self SF)) ?_; with_reducible rfl)
  (try simp only [Act.put, List.setIfInBounds_toArray, List.set_cons_zero, List.set_cons_succ])
  refine wpAnyM_take 13 (v := ?_) rfl (by kernel_rfl) (fun _ _ _ h => h) (Or.inl ⟨by rfl, ?_⟩) (by assumption) ?_
  rotate_left
  · (intro wx hSw; (try dsimp only at hSw); go_simp; (try with_reducible rfl))
  (try simp only [Act.put, List.setIfInBounds_toArray, List.set_cons_zero, List.set_cons_succ])
  first | (refine wpAnyM_takeX [15, 16, 17, 23, 24] 14 (v := ?_) rfl (by kernel_rfl) (fun _ _ _ h => h) (Or.inl ⟨by rfl, ?_⟩) (by assumption) ?_; rotate_left; focus ((intro wx hSw; (try dsimp only at hSw); go_simp; (try with_reducible rfl)))) | (refine wpAnyM_takeX [15, 16, 17, 23, 24] 14 rfl (by kernel_rfl) (fun _ _ _ h => h) (Or.inr ⟨by rfl, rfl⟩) (by assumption) ?_)
  (try simp only [Act.put, List.setIfInBounds_toArray, List.set_cons_zero, List.set_cons_succ])
  first | (refine wpAnyM_takeX [16, 17, 23, 24] 15 (v := ?_) rfl (by kernel_rfl) (fun _ _ _ h => h) (Or.inl ⟨by rfl, ?_⟩) (by assumption) ?_; rotate_left; focus ((intro wx hSw; (try dsimp only at hSw); go_simp; (try with_reducible rfl)))) | (refine wpAnyM_takeX [16, 17, 23, 24] 15 rfl (by kernel_rfl) (fun _ _ _ h => h) (Or.inr ⟨by rfl, rfl⟩) (by assumption) ?_)
  (try simp only [Act.put, List.setIfInBounds_toArray, List.set_cons_zero, List.set_cons_succ])
  first | (refine wpAnyM_takeX [17, 23, 24] 16 (v := ?_) rfl (by kernel_rfl) (fun _ _ _ h => h) (Or.inl ⟨by rfl, ?_⟩) (by assumption) ?_; rotate_left; focus ((intro wx hSw; (try dsimp only at hSw); go_simp; (try with_reducible rfl)))) | (refine wpAnyM_takeX [17, 23, 24] 16 rfl (by kernel_rfl) (fun _ _ _ h => h) (Or.inr ⟨by rfl, rfl⟩) (by assumption) ?_)
  (try simp only [Act.put, List.setIfInBounds_toArray, List.set_cons_zero, List.set_cons_succ])
  first | (refine wpAnyM_takeX [23, 24] 17 (v := ?_) rfl (by kernel_rfl) (fun _ _ _ h => h) (Or.inl ⟨by rfl, ?_⟩) (by assumption) ?_; rotate_left; focus ((intro wz hSw; obtain ⟨s1, s2⟩ := hSw; go_simp; (try with_reducible rfl)))) | (refine wpAnyM_takeX [23, 24] 17 rfl (by kernel_rfl) (fun _ _ _ h => h) (Or.inr ⟨by rfl, rfl⟩) (by assumption) ?_)
  (try simp only [Act.put, List.setIfInBounds_toArray, List.set_cons_zero, List.set_cons_succ])
  first | (refine wpAnyM_takeX [19, 20, 21, 22, 23, 24] 18 (v := ?_) rfl (by kernel_rfl) (fun _ _ _ h => h) (Or.inl ⟨by rfl, ?_⟩) (by assumption) ?_; rotate_left; focus ((intro wx hSw; (try dsimp only at hSw); go_simp; (try with_reducible rfl)))) | (refine wpAnyM_takeX [19, 20, 21, 22, 23, 24] 18 rfl (by kernel_rfl) (fun _ _ _ h => h) (Or.inr ⟨by rfl, rfl⟩) (by assumption) ?_)
  (try simp only [Act.put, List.setIfInBounds_toArray, List.set_cons_zero, List.set_cons_succ])
  first | (refine wpAnyM_takeX [20, 21, 22, 23, 24] 19 (v := ?_) rfl (by kernel_rfl) (fun _ _ _ h => h) (Or.inl ⟨by rfl, ?_⟩) (by assumption) ?_; rotate_left; focus ((intro wx hSw; (try dsimp only at hSw); go_simp; (try with_reducible rfl)))) | (refine wpAnyM_takeX [20, 21, 22, 23, 24] 19 rfl (by kernel_rfl) (fun _ _ _ h => h) (Or.inr ⟨by rfl, rfl⟩) (by assumption) ?_)
  (try simp only [Act.put, List.setIfInBounds_toArray, List.set_cons_zero, List.set_cons_succ])
  first | (refine wpAnyM_takeX [21, 22, 23, 24] 20 (v := ?_) rfl (by kernel_rfl) (fun _ _ _ h => h) (Or.inl ⟨by rfl, ?_⟩) (by assumption) ?_; rotate_left; focus ((intro wx hSw; (try dsimp only at hSw); go_simp; (try with_reducible rfl)))) | (refine wpAnyM_takeX [21, 22, 23, 24] 20 rfl (by kernel_rfl) (fun _ _ _ h => h) (Or.inr ⟨by rfl, rfl⟩) (by assumption) ?_)
  (try simp only [Act.put, List.setIfInBounds_toArray, List.set_cons_zero, List.set_cons_succ])
  first | (refine wpAnyM_takeX [22, 23, 24] 21 (v := ?_) rfl (by kernel_rfl) (fun _ _ _ h => h) (Or.inl ⟨by rfl, ?_⟩) (by assumption) ?_; rotate_left; focus ((intro wx hSw; (try dsimp only at hSw); go_simp; (try with_reducible rfl)))) | (refine wpAnyM_takeX [22, 23, 24] 21 rfl (by kernel_rfl) (fun _ _ _ h => h) (Or.inr ⟨by rfl, rfl⟩) (by assumption) ?_)
  (try simp only [Act.put, List.setIfInBounds_toArray, List.set_cons_zero, List.set_cons_succ])
  first | (refine wpAnyM_takeX [23, 24] 22 (v := ?_) rfl (by kernel_rfl) (fun _ _ _ h => h) (Or.inl ⟨by rfl, ?_⟩) (by assumption) ?_; rotate_left; focus ((intro wz hSw; obtain ⟨s1, s2⟩ := hSw; go_simp; (try with_reducible rfl)))) | (refine wpAnyM_takeX [23, 24] 22 rfl (by kernel_rfl) (fun _ _ _ h => h) (Or.inr ⟨by rfl, rfl⟩) (by assumption) ?_)
  (try simp only [Act.put, List.setIfInBounds_toArray, List.set_cons_zero, List.set_cons_succ])
  first | (refine wpAnyM_take 23 (v := ?_) rfl (by kernel_rfl) (fun _ _ _ h => h) (Or.inl ⟨by rfl, ?_⟩) (by assumption) ?_; rotate_left; focus ((intro wx hSw; (try dsimp only at hSw); go_simp; (try with_reducible rfl)))) | (refine wpAnyM_take 23 rfl (by kernel_rfl) (fun _ _ _ h => h) (Or.inr ⟨by rfl, rfl⟩) (by assumption) ?_)
  (try simp only [Act.put, List.setIfInBounds_toArray, List.set_cons_zero, List.set_cons_succ])
  refine wpAnyM_one 24 rfl (by kernel_rfl) (fun K hK => ?_)
  go_simp
  refine hK.out _ _ (.inl (by kernel_rfl)) (fun _ => ?_)
  clear hK K
  (try simp only [Act.put, List.setIfInBounds_toArray, List.set_cons_zero, List.set_cons_succ])
  refine wpAnyM_switch (fun (w' : World) => w'.cell? ⟨bc, 0, none⟩ = some (.bool SH) ∧ w'.cell? ⟨bc + 1, 0, none⟩ = some (.bool SH)) 24 (by kernel_rfl) ?_ (fun hHeld => ?_)
  · exact ⟨T4.out.c0, T4.out.c1⟩
  refine wpAnyM_done (by kernel_rfl) ?_ _
  (try clear hHeld)
  clear RC RR H7 T1 T2 T3 hu3 hu4 hb2 hs2 Q2 S11
  have S9 := Lib.hid (sb_fresh T4.out.below T4.out.pB)
  go_upto_region 15 with fail
  obtain ⟨bc, hbc⟩ : ∃ x, v4.heap.size = x := ⟨_, rfl⟩
  rw [hbc] at S9 ⊢
  clear T4
  generalize (v4.alloc (.cells #[.bool false] 31)).alloc (.cells #[.bool false] 35) = W15 at *
  have S15 := S9
  clear S9 hbc
  have RC := Lib.hid (fun (x : World) (qq : Option Addr) (cc : Nat) (a1 : x.cell? ⟨bc, 0, none⟩ = some (.bool false)) (a2 : x.frozen? ⟨bc, 0, none⟩ = false) (a3 : Slc x qq n' M) => forget_any ⟨bc, 0, none⟩ false p qq n' cc M x a1 a2 a3 (by have := HN.out; omega))
  have RR := Lib.hid (fun (x : World) (a1 : x.cell? ⟨bc + 1, 0, none⟩ = some (.bool false)) (a2 : x.frozen? ⟨bc + 1, 0, none⟩ = false) (a3 : Slc x q' n' M) => rforget_any ⟨bc + 1, 0, none⟩ false p q' n' cp' M x a1 a2 a3 (by have := HN.out; omega))
  obtain ⟨SF, hSF⟩ : ∃ x, stepF p (fgF M n') (fgQ p M n') = x := ⟨_, rfl⟩
  obtain ⟨SH, hSH⟩ : ∃ x, (false || orB (fgB p M) n' || stepH p (fgF M n') (fgQ p M n')) = x := ⟨_, rfl⟩
  simp only [hSF, hSH] at RC RR
  clear hSF hSH
  have H7 := Lib.hid S15.out.drew
  refine wp_region_M (fun w' => Blk w' w.heap.size 25 300 p) 9 (by kernel_rfl) ?_ (fun hHeld => ?_)
  · exact H7.out.pB
  refine wpAnyM_takeX [5, 9, 10, 11, 12, 13, 14, 15, 16, 17, 18, 19, 20, 21, 22, 23] 0 (v := ?_) rfl (by kernel_rfl) (fun _ _ _ h => h) (Or.inl ⟨by rfl, ?_⟩) (by assumption) ?_
  rotate_left
  · (intro wx hSw; (try dsimp only at hSw); go_simp; (try with_reducible rfl))
  (try simp only [Act.put, List.setIfInBounds_toArray, List.set_cons_zero, List.set_cons_succ])
  refine wpAnyM_takeX [5, 9, 10, 11, 12, 13, 14, 15, 16, 17, 18, 19, 20, 21, 22, 23] 1 (v := ?_) rfl (by kernel_rfl) (fun _ _ _ h => h) (Or.inl ⟨by rfl, ?_⟩) (by assumption) ?_
  rotate_left
  · (intro wz hSw; refine Eq.trans (run_load_row 25 (.tmp 4) (by rfl) (w.heap.size) (by rfl) _ _ _ _ (hSw) Try.underlying25 rfl (icov.trans (by rw [arrv_size]))) ?_; with_reducible rfl)
  (try simp only [Act.put, List.setIfInBounds_toArray, List.set_cons_zero, List.set_cons_succ])
  refine wpAnyM_takeX [4, 5, 9, 10, 11, 12, 13, 14, 15, 16, 17, 18, 19, 20, 21, 22, 23] 3 (v := ?_) rfl (by kernel_rfl) (fun _ _ _ h => h) (Or.inl ⟨by rfl, ?_⟩) (by assumption) ?_
  rotate_left
  · (intro wx hSw; (try dsimp only at hSw); go_simp; (try with_reducible rfl))
  (try simp only [Act.put, List.setIfInBounds_toArray, List.set_cons_zero, List.set_cons_succ])
  refine wpAnyM_take 6 (v := ?_) rfl (by kernel_rfl) (fun _ _ _ h => h) (Or.inl ⟨by rfl, ?_⟩) (by assumption) ?_
  rotate_left
  · (intro wx hSw; (try dsimp only at hSw); go_simp; (try with_reducible rfl))
  (try simp only [Act.put, List.setIfInBounds_toArray, List.set_cons_zero, List.set_cons_succ])
  refine wpAnyM_take 7 (v := ?_) rfl (by kernel_rfl) (fun _ _ _ h => h) (Or.inl ⟨by rfl, ?_⟩) (by assumption) ?_
  rotate_left
  · (intro wz hSw; refine Eq.trans (run_load_row 25 (.tmp 4) (by rfl) (w.heap.size) (by rfl) _ _ _ _ (hSw) Try.underlying25 rfl (icov.trans (by rw [arrv_size]))) ?_; with_reducible rfl)
  (try simp only [Act.put, List.setIfInBounds_toArray, List.set_cons_zero, List.set_cons_succ])
  refine wpAnyM_take 8 (v := ?_) rfl (by kernel_rfl) (fun _ _ _ h => h) (Or.inl ⟨by rfl, ?_⟩) (by assumption) ?_
  rotate_left
  · (intro wx hSw; (try dsimp only at hSw); go_simp; (try with_reducible rfl))
  (try simp only [Act.put, List.setIfInBounds_toArray, List.set_cons_zero, List.set_cons_succ])
  refine wpAnyM_oneS 2 rfl (by kernel_rfl) (fun K hK => ?_)
  rw [if_pos (by rfl)]; refine wp_bsl0_int (by rfl) ?_; have T1 := Lib.hid (H7.out.alloc (.cells #[] 3))
  clear hHeld
  refine hK.out _ _ ?_ (fun hHeld => ?_)
  · exact T1.out.pB
  clear hK K
  (try simp only [Act.put, List.setIfInBounds_toArray, List.set_cons_zero, List.set_cons_succ])
  refine wpAnyM_oneS 4 rfl (by kernel_rfl) (fun K hK => ?_)
  rw [if_pos (by rfl)]; refine wp_appAll_int (.tmp 93) (.tmp 94) (by rfl) _ q' n' cp' M (by rfl) (by rfl) (HM.out.below T1.out.below) (by have := HN.out; omega) ?_; intro q2 cp2 v2 hb2 hs2; have T2 := Lib.hid (T1.out.down hb2); have Q2 := Lib.hid hs2
  clear hHeld
  refine hK.out _ _ ?_ (fun hHeld => ?_)
  · exact T2.out.pB
  clear hK K
  (try simp only [Act.put, List.setIfInBounds_toArray, List.set_cons_zero, List.set_cons_succ])
  refine wpAnyM_oneS 5 rfl (by kernel_rfl) (fun K hK => ?_)
  go_simp
  (refine (RC.out _ _ _ T2.out.c0 T2.out.f0 Q2.out).mono ?_); rintro e v3 ⟨rfl, hu3⟩; have T3 := Lib.hid (T2.out.upd0 hu3)
  (try dsimp only)
  (try simp only [Act.put, List.setIfInBounds_toArray, List.set_cons_zero, List.set_cons_succ])
  clear hHeld
  refine hK.out _ _ ?_ (fun hHeld => ?_)
  · exact T3.out.pB
  clear hK K
  (try simp only [Act.put, List.setIfInBounds_toArray, List.set_cons_zero, List.set_cons_succ])
  refine wpAnyM_one 9 rfl (by kernel_rfl) (fun K hK => ?_)
  go_simp
  (refine (RR.out _ T3.out.c1 T3.out.f1 (HM.out.below T3.out.below)).mono ?_); rintro e v4 ⟨rfl, hu4⟩; have T4 := Lib.hid (T3.out.upd1 hu4)
  (try dsimp only)
  (try simp only [Act.put, List.setIfInBounds_toArray, List.set_cons_zero, List.set_cons_succ])
  refine hK.out _ _ (.inl (by kernel_rfl)) (fun _ => ?_)
  clear hK K
  (try simp only [Act.put, List.setIfInBounds_toArray, List.set_cons_zero, List.set_cons_succ])
  refine wpAnyM_switch (fun (w' : World) => w'.cell? ⟨bc, 0, none⟩ = some (.bool SH) ∧ w'.cell? ⟨bc + 1, 0, none⟩ = some (.bool SH)) 23 (by kernel_rfl) ?_ (fun hHeld => ?_)
  · exact ⟨T4.out.c0, T4.out.c1⟩
  refine wpAnyM_take 10 (v := ?_) rfl (by kernel_rfl) (fun _ _ _ h => h) (Or.inl ⟨by rfl, ?_⟩) (by assumption) ?_
  rotate_left
  · (intro wz hSw; refine Eq.trans (run_op_eqlCov (.tmp 96) (.tmp 100) (by rfl) (by rfl) (by rfl) (covB_self SF)) ?_; with_reducible rfl)
  (try simp only [Act.put, List.setIfInBounds_toArray, List.set_cons_zero, List.set_cons_succ])
  refine wpAnyM_take 11 (v := ?_) rfl (by kernel_rfl) (fun _ _ _ h => h) (Or.inl ⟨by rfl, ?_⟩) (by assumption) ?_
  rotate_left
  · (intro wx hSw; (try dsimp only at hSw); go_simp; (try with_reducible rfl))
  (try simp only [Act.put, List.setIfInBounds_toArray, List.set_cons_zero, List.set_cons_succ])
  first | (refine wpAnyM_take 12 (v := ?_) rfl (by kernel_rfl) (fun _ _ _ h => h) (Or.inl ⟨by rfl, ?_⟩) (by assumption) ?_; rotate_left; focus ((intro wx hSw; (try dsimp only at hSw); go_simp; (try with_reducible rfl)))) | (refine wpAnyM_take 12 rfl (by kernel_rfl) (fun _ _ _ h => h) (Or.inr ⟨by rfl, rfl⟩) (by assumption) ?_)
  (try simp only [Act.put, List.setIfInBounds_toArray, List.set_cons_zero, List.set_cons_succ])
  first | (refine wpAnyM_take 13 (v := ?_) rfl (by kernel_rfl) (fun _ _ _ h => h) (Or.inl ⟨by rfl, ?_⟩) (by assumption) ?_; rotate_left; focus ((intro wx hSw; (try dsimp only at hSw); go_simp; (try with_reducible rfl)))) | (refine wpAnyM_take 13 rfl (by kernel_rfl) (fun _ _ _ h => h) (Or.inr ⟨by rfl, rfl⟩) (by assumption) ?_)
  (try simp only [Act.put, List.setIfInBounds_toArray, List.set_cons_zero, List.set_cons_succ])
  first | (refine wpAnyM_take 14 (v := ?_) rfl (by kernel_rfl) (fun _ _ _ h => h) (Or.inl ⟨by rfl, ?_⟩) (by assumption) ?_; rotate_left; focus ((intro wx hSw; (try dsimp only at hSw); go_simp; (try with_reducible rfl)))) | (refine wpAnyM_take 14 rfl (by kernel_rfl) (fun _ _ _ h => h) (Or.inr ⟨by rfl, rfl⟩) (by assumption) ?_)
  (try simp only [Act.put, List.setIfInBounds_toArray, List.set_cons_zero, List.set_cons_succ])
  first | (refine wpAnyM_take 15 (v := ?_) rfl (by kernel_rfl) (fun _ _ _ h => h) (Or.inl ⟨by rfl, ?_⟩) (by assumption) ?_; rotate_left; focus ((intro wz hSw; obtain ⟨s1, s2⟩ := hSw; go_simp; (try with_reducible rfl)))) | (refine wpAnyM_take 15 rfl (by kernel_rfl) (fun _ _ _ h => h) (Or.inr ⟨by rfl, rfl⟩) (by assumption) ?_)
  (try simp only [Act.put, List.setIfInBounds_toArray, List.set_cons_zero, List.set_cons_succ])
  first | (refine wpAnyM_take 16 (v := ?_) rfl (by kernel_rfl) (fun _ _ _ h => h) (Or.inl ⟨by rfl, ?_⟩) (by assumption) ?_; rotate_left; focus ((intro wx hSw; (try dsimp only at hSw); go_simp; (try with_reducible rfl)))) | (refine wpAnyM_take 16 rfl (by kernel_rfl) (fun _ _ _ h => h) (Or.inr ⟨by rfl, rfl⟩) (by assumption) ?_)
  (try simp only [Act.put, List.setIfInBounds_toArray, List.set_cons_zero, List.set_cons_succ])
  first | (refine wpAnyM_take 17 (v := ?_) rfl (by kernel_rfl) (fun _ _ _ h => h) (Or.inl ⟨by rfl, ?_⟩) (by assumption) ?_; rotate_left; focus ((intro wx hSw; (try dsimp only at hSw); go_simp; (try with_reducible rfl)))) | (refine wpAnyM_take 17 rfl (by kernel_rfl) (fun _ _ _ h => h) (Or.inr ⟨by rfl, rfl⟩) (by assumption) ?_)
  (try simp only [Act.put, List.setIfInBounds_toArray, List.set_cons_zero, List.set_cons_succ])
  first | (refine wpAnyM_take 18 (v := ?_) rfl (by kernel_rfl) (fun _ _ _ h => h) (Or.inl ⟨by rfl, ?_⟩) (by assumption) ?_; rotate_left; focus ((intro wx hSw; (try dsimp only at hSw); go_simp; (try with_reducible rfl)))) | (refine wpAnyM_take 18 rfl (by kernel_rfl) (fun _ _ _ h => h) (Or.inr ⟨by rfl, rfl⟩) (by assumption) ?_)
  (try simp only [Act.put, List.setIfInBounds_toArray, List.set_cons_zero, List.set_cons_succ])
  first | (refine wpAnyM_take 19 (v := ?_) rfl (by kernel_rfl) (fun _ _ _ h => h) (Or.inl ⟨by rfl, ?_⟩) (by assumption) ?_; rotate_left; focus ((intro wx hSw; (try dsimp only at hSw); go_simp; (try with_reducible rfl)))) | (refine wpAnyM_take 19 rfl (by kernel_rfl) (fun _ _ _ h => h) (Or.inr ⟨by rfl, rfl⟩) (by assumption) ?_)
  (try simp only [Act.put, List.setIfInBounds_toArray, List.set_cons_zero, List.set_cons_succ])
  first | (refine wpAnyM_take 20 (v := ?_) rfl (by kernel_rfl) (fun _ _ _ h => h) (Or.inl ⟨by rfl, ?_⟩) (by assumption) ?_; rotate_left; focus ((intro wz hSw; obtain ⟨s1, s2⟩ := hSw; go_simp; (try with_reducible rfl)))) | (refine wpAnyM_take 20 rfl (by kernel_rfl) (fun _ _ _ h => h) (Or.inr ⟨by rfl, rfl⟩) (by assumption) ?_)
  (try simp only [Act.put, List.setIfInBounds_toArray, List.set_cons_zero, List.set_cons_succ])
  first | (refine wpAnyM_take 21 (v := ?_) rfl (by kernel_rfl) (fun _ _ _ h => h) (Or.inl ⟨by rfl, ?_⟩) (by assumption) ?_; rotate_left; focus ((intro wx hSw; (try dsimp only at hSw); go_simp; (try with_reducible rfl)))) | (refine wpAnyM_take 21 rfl (by kernel_rfl) (fun _ _ _ h => h) (Or.inr ⟨by rfl, rfl⟩) (by assumption) ?_)
  (try simp only [Act.put, List.setIfInBounds_toArray, List.set_cons_zero, List.set_cons_succ])
  refine wpAnyM_take 22 (v := ?_) rfl (by kernel_rfl) (fun _ _ _ h => h) (Or.inl ⟨by rfl, ?_⟩) (by assumption) ?_
  rotate_left
  · (intro wx hSw; (try dsimp only at hSw); go_simp; (try with_reducible rfl))
  (try simp only [Act.put, List.setIfInBounds_toArray, List.set_cons_zero, List.set_cons_succ])
  refine wpAnyM_one 23 rfl (by kernel_rfl) (fun K hK => ?_)
  go_simp
  refine hK.out _ _ (.inl (by kernel_rfl)) (fun _ => ?_)
  clear hK K
  (try simp only [Act.put, List.setIfInBounds_toArray, List.set_cons_zero, List.set_cons_succ])
  refine wpAnyM_switch (fun (w' : World) => w'.cell? ⟨bc, 0, none⟩ = some (.bool SH) ∧ w'.cell? ⟨bc + 1, 0, none⟩ = some (.bool SH)) 23 (by kernel_rfl) ?_ (fun hHeld => ?_)
  · exact ⟨T4.out.c0, T4.out.c1⟩
  refine wpAnyM_done (by kernel_rfl) ?_ _
  (try clear hHeld)
  go_wp2_with fail
  go_ret
  exact ⟨rfl, T4.out.below⟩
theorem says12_all (p : Nat → Int) (fr : Int) (q q' : Option Addr) (n cp n' cp' : Nat) (L M : Nat → Int) (w : World) (hL : Slc w q n L) (hM : Slc w q' n' M) :
    Calls Try.prog 5 #[.agg (arrv 300 p), .int .i64 fr, .slice q n cp, .slice q' n' cp'] w fun e w' => e = .returned (.bool true) ∧ Below w.heap.size w w' := by
  by_cases h1 : n ≤ 30
  · by_cases h2 : n' ≤ 30
    · by_cases h3 : -900 ≤ fr
      · by_cases h4 : fr ≤ 900
        · exact says12_main p fr q q' n cp n' cp' L M w h1 h2 ⟨h3, h4⟩ hL hM
        · exact says12_noop p fr q q' n cp n' cp' w (.inr (.inr (.inr ⟨h1, h2, h3, by omega⟩)))
      · exact says12_noop p fr q q' n cp n' cp' w (.inr (.inr (.inl ⟨h1, h2, by omega⟩)))
    · exact says12_noop p fr q q' n cp n' cp' w (.inr (.inl ⟨h1, by omega⟩))
  · exact says12_noop p fr q q' n cp n' cp' w (.inl (by omega))
end Go.Proofs.Ytokcdlcmamdloaa
