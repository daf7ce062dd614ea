/- The walk of the law StateSays. -/
import Derived.Test.YtcibndlpnfikhaaQ09
import Derived.Test.YtcibndlpnfikhaaQ05
import Derived.Test.YtcibndlpnfikhaaQ08
namespace Go.Proofs.Ytcibndlpnfikhaa
open Go.RowKit
set_option maxRecDepth 100000
open Go in
/-- '!=' of two arrays of int64, at the operation. -/
theorem run_op_neqVec {n : Nat} {T : TypeId} (hT : Try.prog.underlying T = some (.array n 2)) (hG : Try.prog.eqGuardType Try.prog.depth T = false) {o : Oper} {ev : Operand → Value} {w : World} (x y : Operand) (ho : o.op = .binOp .neq T x y T) {f g : Nat → Int} (hx : ev x = .agg (arrv n f)) (hy : ev y = .agg (arrv n g)) {b : Bool} (hb : eqB n f g = b) :
    (execOp ev o).run Try.prog w = .ok (.value (.bool (!b))) w := by
  have h : (Try.prog.info? 2).map (·.size) = some 1 := by kernel_rfl
  obtain ⟨i, h2, s2⟩ : ∃ i, Try.prog.info? 2 = some i ∧ i.size = 1 := by
    cases e : Try.prog.info? 2 with
    | none => rw [e] at h; cases h
    | some i => rw [e] at h; exact ⟨i, rfl, by simpa using h⟩
  have e : (Op.equal T (.agg (arrv n f)) (.agg (arrv n g))).run Try.prog w = .ok (eqB n f g) w :=
    run_equalIn_vec (w := w) 9998 hT Try.underlying2 (by simp [Program.cellsOf, h2, s2]) h2 _ _
  unfold execOp
  simp only [ho, hx, hy, eqGuard, binOp, Sem.run_bind, Sem.run_pure, Result.andThen_ok]
  simp [hG, e, hb, go_sem]
section
open Go
/-- Two rows of 24, one behind the other. -/
def two24 (X Y : Nat → Int) : Nat → Int := fun i => if i < 24 then X i else Y (i - 24)
theorem fill24two (X Y : Nat → Int) (Z : Array Value) (hZ : Z = arrv 48 (fun _ => 0)) : Instr.fill (fun i => some (i * 24, 24)) Z [(0, .agg (arrv 24 X)), (1, .agg (arrv 24 Y))] = some (arrv 48 (two24 X Y)) := by
  subst hZ; kernel_rfl
theorem zrange24two (Z : Array Value) (hZ : Z = arrv 24 (fun _ => 0)) : (Array.range 48).map (fun i => Z[i % Z.size]!) = arrv 48 (fun _ => 0) := by
  subst hZ; kernel_rfl
theorem run_buildSlice24two (X Y : Nat → Int) (w : World) : (Instr.buildSlice 62 2 #[(0, .agg (arrv 24 X)), (1, .agg (arrv 24 Y))]).run Try.prog w = .ok (.slice (some ⟨w.heap.size, 0, none⟩) 2 2) (w.alloc (.cells (arrv 48 (two24 X Y)) 22)) := by
  have hz : (zeroValue 22).run Try.prog w = .ok (.agg (arrv 24 (fun _ => 0))) w := by kernel_rfl
  have hs : (sizeOf 22).run Try.prog w = .ok 24 w := by kernel_rfl
  unfold Instr.buildSlice
  simp only [Sem.run_bind, run_underlying Try.underlying62, Result.andThen_ok, hs]
  rw [if_neg (by decide), if_neg (by decide)]
  have hf : Instr.fill (fun i => some (i * 24, 24)) (Array.map (fun x => (Value.agg (arrv 24 (fun _ => 0))).cells[x % (Value.agg (arrv 24 (fun _ => 0))).cells.size]!) (Array.range (2 * 24))) [(0, Value.agg (arrv 24 X)), (1, Value.agg (arrv 24 Y))] = some (arrv 48 (two24 X Y)) :=
    fill24two X Y _ (zrange24two (arrv 24 (fun _ => 0)) rfl)
  simp only [Sem.run_bind, hz, Result.andThen_ok, Sem.run_pure, hf]
  simp [newRow, newObj, go_sem]
  rfl
theorem wp_bsl24two {o : Oper} {a : Act} {w : World} {K : Act → World → Prop} {Q : Exit → Act → World → Prop} {X Y : Nat → Int} (x y : Operand) (ho : o.op = .buildSlice 62 2 #[(0, x), (1, y)])
    (hx : a.eval x = .agg (arrv 24 X)) (hy : a.eval y = .agg (arrv 24 Y)) (h : K (a.put o.dst (.slice (some ⟨w.heap.size, 0, none⟩) 2 2)) (w.alloc (.cells (arrv 48 (two24 X Y)) 22))) : o.wp Try.prog a w K Q := by
  unfold Oper.wp execOp
  simp only [ho, Sem.run_bind, List.map_toArray, List.map_cons, List.map_nil, hx, hy, run_buildSlice24two X Y w, Result.andThen_ok]
  exact h
end
/-- The arguments' blocks. -/
structure StB (S D E : Nat → Int) (w wr : World) : Prop where
  below : Below w.heap.size w wr
  sB : Blk wr w.heap.size 23 24 S
  dB : Blk wr (w.heap.size + 1) 22 24 D
  eB : Blk wr (w.heap.size + 1 + 1) 22 24 E
/-- Beside, the two flags. -/
structure StC (S D E : Nat → Int) (bc : Nat) (x y : Bool) (w wr : World) : Prop where
  b : StB S D E w wr
  c0 : wr.cell? ⟨bc, 0, none⟩ = some (.bool x)
  f0 : wr.frozen? ⟨bc, 0, none⟩ = false
  c1 : wr.cell? ⟨bc + 1, 0, none⟩ = some (.bool y)
  f1 : wr.frozen? ⟨bc + 1, 0, none⟩ = false
  ord : w.heap.size + 1 + 1 < bc
section
variable {S D E : Nat → Int} {bc : Nat} {x y z : Bool} {w wr w' : World}
theorem StB.down (s : StB S D E w wr) (u : Below wr.heap.size wr w') : StB S D E w w' := ⟨s.below.trans (u.mono s.below.size), s.sB.below u, s.dB.below u, s.eB.below u⟩
theorem StB.drew (s : StB S D E w wr) : StB S D E w wr.drew := s.down (Below.drew (Below.refl _ _))
theorem StC.down (s : StC S D E bc x y w wr) (b : Below wr.heap.size wr w') : StC S D E bc x y w w' :=
  ⟨s.b.down b, (b.cell (World.block_lt_of_cell? _ _ s.c0)).trans s.c0, (b.frozen (World.block_lt_of_cell? _ _ s.c0)).trans s.f0, (b.cell (World.block_lt_of_cell? _ _ s.c1)).trans s.c1, (b.frozen (World.block_lt_of_cell? _ _ s.c1)).trans s.f1, s.ord⟩
theorem StC.drew (s : StC S D E bc x y w wr) : StC S D E bc x y w wr.drew := s.down (Below.drew (Below.refl _ _))
theorem StC.alloc (s : StC S D E bc x y w wr) (o : Obj) : StC S D E bc x y w (wr.alloc o) := s.down ((Below.refl _ _).alloc (Nat.le_refl _) o)
theorem StC.upd0 (s : StC S D E bc x y w wr) (u : Upd ⟨bc, 0, none⟩ z wr w') : StC S D E bc z y w w' := by
  have h := s.ord
  have hb1 := World.block_lt_of_cell? _ _ s.c1
  exact ⟨⟨own_upd s.b.below (by simp; omega) u, s.b.sB.upd u (by simp; omega), s.b.dB.upd u (by simp; omega), s.b.eB.upd u (by simp; omega)⟩, u.cellc s.c0, (u.frozen (World.block_lt_of_cell? _ _ s.c0)).trans s.f0, (u.cell hb1 (by simp)).trans s.c1, (u.frozen hb1).trans s.f1, h⟩
theorem StC.upd1 (s : StC S D E bc x y w wr) (u : Upd ⟨bc + 1, 0, none⟩ z wr w') : StC S D E bc x z w w' := by
  have h := s.ord
  have hb0 := World.block_lt_of_cell? _ _ s.c0
  exact ⟨⟨own_upd s.b.below (by simp; omega) u, s.b.sB.upd u (by simp; omega), s.b.dB.upd u (by simp; omega), s.b.eB.upd u (by simp; omega)⟩, (u.cell hb0 (by simp)).trans s.c0, (u.frozen hb0).trans s.f0, u.cellc s.c1, (u.frozen (World.block_lt_of_cell? _ _ s.c1)).trans s.f1, h⟩
theorem stc_fresh (s : StB S D E w wr) : StC S D E wr.heap.size false false w ((wr.alloc (.cells #[.bool false] 42)).alloc (.cells #[.bool false] 46)) :=
  ⟨(s.down ((Below.refl _ _).alloc (Nat.le_refl _) _)).down ((Below.refl _ _).alloc (Nat.le_refl _) _), by simp [go_sem], by simp [go_sem], by simp [go_sem], by simp [go_sem], s.eB.lt⟩
end
set_option maxHeartbeats 8000000 in
theorem says15_noop (S D E : Nat → Int) (fr : Int) (q : Option Addr) (n cp : Nat) (w : World) (h : 30 < n ∨ (n ≤ 30 ∧ fr < -900) ∨ (n ≤ 30 ∧ -900 ≤ fr ∧ 900 < fr)) :
    Calls Try.prog 3 #[.agg (arrv 24 S), .agg (arrv 24 D), .agg (arrv 24 E), .int .i64 fr, .slice q n cp] w fun e w' => e = .returned (.bool true) ∧ Below w.heap.size w w' := by
  have B0 := Lib.hid (show Below w.heap.size w (((w.alloc (.cells (arrv 24 S) 23)).alloc (.cells (arrv 24 D) 22)).alloc (.cells (arrv 24 E) 22)) by (repeat (first | with_reducible exact Below.refl _ _ | with_reducible apply Below.drew | (with_reducible refine below_drewN ?_ _) | (with_reducible refine Below.alloc ?_ (by (try simp) <;> omega) _) | (with_reducible refine Below.setCell ?_ (by (try simp) <;> omega) _))))
  have hc : (decide ((30 : Int) < (n : Int)) = true) ∨ (decide ((30 : Int) < (n : Int)) = false ∧ decide (fr < -900) = true) ∨ (decide ((30 : Int) < (n : Int)) = false ∧ decide (fr < -900) = false ∧ decide (900 < fr) = true) := by
    rcases h with h | ⟨h, h2⟩ | ⟨h, h2, h3⟩
    · exact .inl (by simp; omega)
    · exact .inr (.inl ⟨by simp; omega, by simp; omega⟩)
    · exact .inr (.inr ⟨by simp; omega, by simp; omega, by simp; omega⟩)
  clear h
  rcases hc with d1 | ⟨d1, d3⟩ | ⟨d1, d3, d4⟩
  all_goals
    go_enter Try.func3, Try.ntmps3
    go_wp2_with (go_at_call 4; (refine (awake15_any _).mono ?_); rintro e w1 ⟨rfl, hb1⟩; have B1 := Lib.hid (Below.after B0.out hb1); clear hb1)
    go_ret
    exact ⟨rfl, B1.out⟩
set_option maxHeartbeats 20000000 in
theorem says15_main (S D E : Nat → Int) (fr : Int) (q : Option Addr) (n cp : Nat) (L : Nat → Int) (w : World) (hn : n ≤ 30) (hfr : -900 ≤ fr ∧ fr ≤ 900) (hL : Slc w q n L) (hDE : ∀ i, 24 ≤ i → D i = E (i - 24)) :
    Calls Try.prog 3 #[.agg (arrv 24 S), .agg (arrv 24 D), .agg (arrv 24 E), .int .i64 fr, .slice q n cp] w fun e w' => e = .returned (.bool true) ∧ Below w.heap.size w w' := by
  have d1 : decide ((30 : Int) < (n : Int)) = false := by simp; omega
  have d3 : decide (fr < -900) = false := by simp; omega
  have d4 : decide (900 < fr) = false := by simp; omega
  have HL := Lib.hid hL
  have HDE := Lib.hid hDE
  have HN := Lib.hid (And.intro hn hfr)
  clear hL hn hfr hDE
  go_enter Try.func3, Try.ntmps3
  obtain ⟨W0, hW0⟩ : ∃ x, ((w.alloc (.cells (arrv 24 S) 23)).alloc (.cells (arrv 24 D) 22)).alloc (.cells (arrv 24 E) 22) = x := ⟨_, rfl⟩
  have S0 := Lib.hid (show StB S D E w W0 by rw [← hW0]; exact ⟨by (repeat (first | with_reducible exact Below.refl _ _ | with_reducible apply Below.drew | (with_reducible refine below_drewN ?_ _) | (with_reducible refine Below.alloc ?_ (by (try simp) <;> omega) _) | (with_reducible refine Below.setCell ?_ (by (try simp) <;> omega) _))), ((Blk.new w _ _ _).alloc _).alloc _, (Blk.new1 w _ _ _ _).alloc _, blk_new2 w _ _ _ _ _⟩)
  go_upto_region 5 with (go_at_call 4; (refine (awake15_any _).mono ?_); rintro e w1 ⟨rfl, hb1⟩; have S1 := Lib.hid (S0.out.down hb1); clear hb1)
  clear S0 hW0 d1 d3 d4
  obtain ⟨GB, hGB⟩ : ∃ x, goodB S = x := ⟨_, rfl⟩
  have GC := Lib.hid (fun (x : World) => sgood_any S x)
  have GR := Lib.hid (fun (x : World) => rgood16_any S x)
  rw [hGB] at GC GR
  clear hGB
  refine wp_region_M (fun w' => Blk w' w.heap.size 23 24 S) 20 (by kernel_rfl) ?_ (fun hHeld => ?_)
  · exact S1.out.sB
  refine wpAnyM_takeX [1, 3, 4, 5, 6, 7, 8, 9, 10, 11, 12, 13, 14, 15, 16, 17, 18, 19, 20] 0 (v := ?_) rfl (by kernel_rfl) (fun _ _ _ h => h) (Or.inl ⟨by rfl, ?_⟩) (by assumption) ?_
  rotate_left
  · (intro wz hSw; refine Eq.trans (run_load_row 23 (.tmp 5) (by rfl) (w.heap.size) (by rfl) _ _ _ _ (hSw) Try.underlying23 rfl (ist.trans (by rw [arrv_size]))) ?_; with_reducible rfl)
  (try simp only [Act.put, List.setIfInBounds_toArray, List.set_cons_zero, List.set_cons_succ])
  refine wpAnyM_takeX [3, 4, 5, 6, 7, 8, 9, 10, 11, 12, 13, 14, 15, 16, 17, 18, 19, 20] 2 (v := ?_) rfl (by kernel_rfl) (fun _ _ _ h => h) (Or.inl ⟨by rfl, ?_⟩) (by assumption) ?_
  rotate_left
  · (intro wz hSw; refine Eq.trans (run_load_row 23 (.tmp 5) (by rfl) (w.heap.size) (by rfl) _ _ _ _ (hSw) Try.underlying23 rfl (ist.trans (by rw [arrv_size]))) ?_; with_reducible rfl)
  (try simp only [Act.put, List.setIfInBounds_toArray, List.set_cons_zero, List.set_cons_succ])
  refine wpAnyM_oneS 1 rfl (by kernel_rfl) (fun K hK => ?_)
  go_simp
  (refine (GC.out _).mono ?_); rintro e w2 ⟨rfl, hb2⟩; have S2 := Lib.hid (S1.out.drew.down hb2); clear hb2
  (try dsimp only)
  (try simp only [Act.put, List.setIfInBounds_toArray, List.set_cons_zero, List.set_cons_succ])
  clear hHeld
  refine hK.out _ _ ?_ (fun hHeld => ?_)
  · exact S2.out.sB
  clear hK K
  (try simp only [Act.put, List.setIfInBounds_toArray, List.set_cons_zero, List.set_cons_succ])
  refine wpAnyM_oneS 3 rfl (by kernel_rfl) (fun K hK => ?_)
  go_simp
  (refine (GR.out _).mono ?_); rintro e w3 ⟨rfl, hb3⟩; have S3 := Lib.hid (S2.out.down hb3); clear hb3
  (try dsimp only)
  (try simp only [Act.put, List.setIfInBounds_toArray, List.set_cons_zero, List.set_cons_succ])
  clear hHeld
  refine hK.out _ _ ?_ (fun hHeld => ?_)
  · exact S3.out.sB
  clear hK K
  (try simp only [Act.put, List.setIfInBounds_toArray, List.set_cons_zero, List.set_cons_succ])
  refine wpAnyM_takeX [5, 6, 7, 8, 9, 10, 11, 12, 13, 14, 15, 16, 17, 18, 19, 20] 4 (v := ?_) rfl (by kernel_rfl) (fun _ _ _ h => h) (Or.inl ⟨by rfl, ?_⟩) (by assumption) ?_
  rotate_left
  · (intro wx hSw; (try dsimp only at hSw); go_simp; (try with_reducible rfl))
  (try simp only [Act.put, List.setIfInBounds_toArray, List.set_cons_zero, List.set_cons_succ])
  refine wpAnyM_takeX [6, 7, 8, 9, 10, 11, 12, 13, 14, 15, 16, 17, 18, 19, 20] 5 (v := ?_) rfl (by kernel_rfl) (fun _ _ _ h => h) (Or.inl ⟨by rfl, ?_⟩) (by assumption) ?_
  rotate_left
  · (intro wx hSw; (try dsimp only at hSw); go_simp; (try with_reducible rfl))
  (try simp only [Act.put, List.setIfInBounds_toArray, List.set_cons_zero, List.set_cons_succ])
  first | (refine wpAnyM_takeX [7, 9, 10, 11, 12, 13, 14, 15, 16, 17, 18, 19, 20] 6 (v := ?_) rfl (by kernel_rfl) (fun _ _ _ h => h) (Or.inl ⟨by rfl, ?_⟩) (by assumption) ?_; rotate_left; focus ((intro wz hSw; refine Eq.trans (run_load_row 23 (.tmp 5) (by rfl) (w.heap.size) (by rfl) _ _ _ _ (hSw) Try.underlying23 rfl (ist.trans (by rw [arrv_size]))) ?_; with_reducible rfl))) | (refine wpAnyM_takeX [7, 9, 10, 11, 12, 13, 14, 15, 16, 17, 18, 19, 20] 6 rfl (by kernel_rfl) (fun _ _ _ h => h) (Or.inr ⟨by rfl, rfl⟩) (by assumption) ?_)
  (try simp only [Act.put, List.setIfInBounds_toArray, List.set_cons_zero, List.set_cons_succ])
  first | (refine wpAnyM_takeX [9, 10, 11, 12, 13, 14, 15, 16, 17, 18, 19, 20] 8 (v := ?_) rfl (by kernel_rfl) (fun _ _ _ h => h) (Or.inl ⟨by rfl, ?_⟩) (by assumption) ?_; rotate_left; focus ((intro wz hSw; refine Eq.trans (run_load_row 23 (.tmp 5) (by rfl) (w.heap.size) (by rfl) _ _ _ _ (hSw) Try.underlying23 rfl (ist.trans (by rw [arrv_size]))) ?_; with_reducible rfl))) | (refine wpAnyM_takeX [9, 10, 11, 12, 13, 14, 15, 16, 17, 18, 19, 20] 8 rfl (by kernel_rfl) (fun _ _ _ h => h) (Or.inr ⟨by rfl, rfl⟩) (by assumption) ?_)
  (try simp only [Act.put, List.setIfInBounds_toArray, List.set_cons_zero, List.set_cons_succ])
  refine wpAnyM_oneS 7 rfl (by kernel_rfl) (fun K hK => ?_)
  go_simp
  (refine (att_any S _).mono ?_); rintro e w4 ⟨rfl, hb4⟩; have S4 := Lib.hid (S3.out.down hb4); clear hb4
  (try dsimp only)
  (try simp only [Act.put, List.setIfInBounds_toArray, List.set_cons_zero, List.set_cons_succ])
  clear hHeld
  refine hK.out _ _ ?_ (fun hHeld => ?_)
  · exact S4.out.sB
  clear hK K
  (try simp only [Act.put, List.setIfInBounds_toArray, List.set_cons_zero, List.set_cons_succ])
  refine wpAnyM_oneS 9 rfl (by kernel_rfl) (fun K hK => ?_)
  go_simp
  (refine (ratt_any S _).mono ?_); rintro e w5 ⟨rfl, hb5⟩; have S5 := Lib.hid (S4.out.down hb5); clear hb5
  (try dsimp only)
  (try simp only [Act.put, List.setIfInBounds_toArray, List.set_cons_zero, List.set_cons_succ])
  clear hHeld
  refine hK.out _ _ ?_ (fun hHeld => ?_)
  · exact S5.out.sB
  clear hK K
  (try simp only [Act.put, List.setIfInBounds_toArray, List.set_cons_zero, List.set_cons_succ])
  first | (refine wpAnyM_takeX [11, 12, 13, 14, 15, 16, 17, 18, 19, 20] 10 (v := ?_) rfl (by kernel_rfl) (fun _ _ _ h => h) (Or.inl ⟨by rfl, ?_⟩) (by assumption) ?_; rotate_left; focus ((intro wz hSw; refine Eq.trans (run_op_neqVec Try.underlying28 (by kernel_rfl) (.tmp 36) (.tmp 38) (by rfl) (by rfl) (by rfl) (eqB_iff.2 fun _ _ => rfl)) ?_; with_reducible rfl))) | (refine wpAnyM_takeX [11, 12, 13, 14, 15, 16, 17, 18, 19, 20] 10 rfl (by kernel_rfl) (fun _ _ _ h => h) (Or.inr ⟨by rfl, rfl⟩) (by assumption) ?_)
  (try simp only [Act.put, List.setIfInBounds_toArray, List.set_cons_zero, List.set_cons_succ])
  refine wpAnyM_takeX [12, 13, 14, 15, 16, 17, 18, 19, 20] 11 (v := ?_) rfl (by kernel_rfl) (fun _ _ _ h => h) (Or.inl ⟨by rfl, ?_⟩) (by assumption) ?_
  rotate_left
  · (intro wx hSw; (try dsimp only at hSw); go_simp; (try with_reducible rfl))
  (try simp only [Act.put, List.setIfInBounds_toArray, List.set_cons_zero, List.set_cons_succ])
  refine wpAnyM_take 12 (v := ?_) rfl (by kernel_rfl) (fun _ _ _ h => h) (Or.inl ⟨by rfl, ?_⟩) (by assumption) ?_
  rotate_left
  · (intro wx hSw; (try dsimp only at hSw); go_simp; (try with_reducible rfl))
  (try simp only [Act.put, List.setIfInBounds_toArray, List.set_cons_zero, List.set_cons_succ])
  first | (refine wpAnyM_takeX [15, 18, 19, 20] 13 (v := ?_) rfl (by kernel_rfl) (fun _ _ _ h => h) (Or.inl ⟨by rfl, ?_⟩) (by assumption) ?_; rotate_left; focus ((intro wz hSw; refine Eq.trans (run_load_row 23 (.tmp 5) (by rfl) (w.heap.size) (by rfl) _ _ _ _ (hSw) Try.underlying23 rfl (ist.trans (by rw [arrv_size]))) ?_; with_reducible rfl))) | (refine wpAnyM_takeX [15, 18, 19, 20] 13 rfl (by kernel_rfl) (fun _ _ _ h => h) (Or.inr ⟨by rfl, rfl⟩) (by assumption) ?_)
  (try simp only [Act.put, List.setIfInBounds_toArray, List.set_cons_zero, List.set_cons_succ])
  first | (refine wpAnyM_takeX [15, 18, 19, 20] 14 (v := ?_) rfl (by kernel_rfl) (fun _ _ _ h => h) (Or.inl ⟨by rfl, ?_⟩) (by assumption) ?_; rotate_left; focus ((intro wx hSw; (try dsimp only at hSw); go_simp; (try with_reducible rfl)))) | (refine wpAnyM_takeX [15, 18, 19, 20] 14 rfl (by kernel_rfl) (fun _ _ _ h => h) (Or.inr ⟨by rfl, rfl⟩) (by assumption) ?_)
  (try simp only [Act.put, List.setIfInBounds_toArray, List.set_cons_zero, List.set_cons_succ])
  first | (refine wpAnyM_takeX [18, 19, 20] 16 (v := ?_) rfl (by kernel_rfl) (fun _ _ _ h => h) (Or.inl ⟨by rfl, ?_⟩) (by assumption) ?_; rotate_left; focus ((intro wz hSw; refine Eq.trans (run_load_row 23 (.tmp 5) (by rfl) (w.heap.size) (by rfl) _ _ _ _ (hSw) Try.underlying23 rfl (ist.trans (by rw [arrv_size]))) ?_; with_reducible rfl))) | (refine wpAnyM_takeX [18, 19, 20] 16 rfl (by kernel_rfl) (fun _ _ _ h => h) (Or.inr ⟨by rfl, rfl⟩) (by assumption) ?_)
  (try simp only [Act.put, List.setIfInBounds_toArray, List.set_cons_zero, List.set_cons_succ])
  first | (refine wpAnyM_takeX [18, 19, 20] 17 (v := ?_) rfl (by kernel_rfl) (fun _ _ _ h => h) (Or.inl ⟨by rfl, ?_⟩) (by assumption) ?_; rotate_left; focus ((intro wx hSw; (try dsimp only at hSw); go_simp; (try with_reducible rfl)))) | (refine wpAnyM_takeX [18, 19, 20] 17 rfl (by kernel_rfl) (fun _ _ _ h => h) (Or.inr ⟨by rfl, rfl⟩) (by assumption) ?_)
  (try simp only [Act.put, List.setIfInBounds_toArray, List.set_cons_zero, List.set_cons_succ])
  refine wpAnyM_oneS 15 rfl (by kernel_rfl) (fun K hK => ?_)
  go_simp
  (refine (part_any S fr _ (by have := HN.out; omega) (by have := HN.out; omega)).mono ?_); rintro e w6 ⟨rfl, hb6⟩; have S6 := Lib.hid (S5.out.down hb6); clear hb6
  (try dsimp only)
  (try simp only [Act.put, List.setIfInBounds_toArray, List.set_cons_zero, List.set_cons_succ])
  clear hHeld
  refine hK.out _ _ ?_ (fun hHeld => ?_)
  · exact S6.out.sB
  clear hK K
  (try simp only [Act.put, List.setIfInBounds_toArray, List.set_cons_zero, List.set_cons_succ])
  refine wpAnyM_oneS 18 rfl (by kernel_rfl) (fun K hK => ?_)
  go_simp
  (refine (rpart_any S fr _ (by have := HN.out; omega) (by have := HN.out; omega)).mono ?_); rintro e w7 ⟨rfl, hb7⟩; have S7 := Lib.hid (S6.out.down hb7); clear hb7
  (try dsimp only)
  (try simp only [Act.put, List.setIfInBounds_toArray, List.set_cons_zero, List.set_cons_succ])
  clear hHeld
  refine hK.out _ _ ?_ (fun hHeld => ?_)
  · exact S7.out.sB
  clear hK K
  (try simp only [Act.put, List.setIfInBounds_toArray, List.set_cons_zero, List.set_cons_succ])
  first | (refine wpAnyM_take 19 (v := ?_) rfl (by kernel_rfl) (fun _ _ _ h => h) (Or.inl ⟨by rfl, ?_⟩) (by assumption) ?_; rotate_left; focus ((intro wz hSw; refine Eq.trans (run_op_neqVec Try.underlying33 (by kernel_rfl) (.tmp 44) (.tmp 47) (by rfl) (by rfl) (by rfl) (eqB_iff.2 fun _ _ => rfl)) ?_; with_reducible rfl))) | (refine wpAnyM_take 19 rfl (by kernel_rfl) (fun _ _ _ h => h) (Or.inr ⟨by rfl, rfl⟩) (by assumption) ?_)
  (try simp only [Act.put, List.setIfInBounds_toArray, List.set_cons_zero, List.set_cons_succ])
  refine wpAnyM_one 20 rfl (by kernel_rfl) (fun K hK => ?_)
  go_simp
  refine hK.out _ _ (.inl (by kernel_rfl)) (fun _ => ?_)
  clear hK K
  (try simp only [Act.put, List.setIfInBounds_toArray, List.set_cons_zero, List.set_cons_succ])
  refine wpAnyM_done (by kernel_rfl) ?_ _
  (try clear hHeld)
  clear S1 S2 S3 S4 S5 S6 GC GR
  go_wp2_with fail
  go_loopw [11] (fun i wr => ∃ k : Nat, k ≤ 24 ∧ i = .int .i64 k ∧ Hid (StB S D E w wr)) (fun i _ => 24 - (intOf i).toNat)
  case atStart => exact ⟨0, by omega, rfl, S7⟩
  case round =>
    obtain ⟨k, hk, rfl, R⟩ := hrel
    clear S7
    by_cases hlt : k < 24
    · have e1 : decide ((k : Int) < 24) = true := by simp; omega
      have BC := Lib.hid (fun (x : World) => rbound_any k x hlt)
      obtain ⟨M, hM⟩ : ∃ M, boxF k = M := ⟨_, rfl⟩
      rw [hM] at BC
      have HM := Lib.hid hM
      clear hM
      go_upto_region 10 with fail
      refine wp_region_M (fun _ => True) 5 (by kernel_rfl) ?_ (fun hHeld => ?_)
      · trivial
      refine wpAnyM_takeX [2, 5] 1 (v := ?_) rfl (by kernel_rfl) (fun _ _ _ h => h) (Or.inl ⟨by rfl, ?_⟩) (by assumption) ?_
      rotate_left
      · (intro wx hSw; (try dsimp only at hSw); go_simp; (try with_reducible rfl))
      (try simp only [Act.put, List.setIfInBounds_toArray, List.set_cons_zero, List.set_cons_succ])
      refine wpAnyM_takeX [4, 5] 3 (v := ?_) rfl (by kernel_rfl) (fun _ _ _ h => h) (Or.inl ⟨by rfl, ?_⟩) (by assumption) ?_
      rotate_left
      · (intro wx hSw; (try dsimp only at hSw); go_simp; (try with_reducible rfl))
      (try simp only [Act.put, List.setIfInBounds_toArray, List.set_cons_zero, List.set_cons_succ])
      refine wpAnyM_oneS 0 rfl (by kernel_rfl) (fun K hK => ?_)
      go_simp
      (refine (bounds_any _).mono ?_); rintro e w2 ⟨rfl, hb2⟩; have S2 := Lib.hid (R.out.drew.down hb2); clear hb2
      (try dsimp only)
      (try simp only [Act.put, List.setIfInBounds_toArray, List.set_cons_zero, List.set_cons_succ])
      clear hHeld
      refine hK.out _ _ ?_ (fun hHeld => ?_)
      · trivial
      clear hK K
      (try simp only [Act.put, List.setIfInBounds_toArray, List.set_cons_zero, List.set_cons_succ])
      refine wpAnyM_take 2 (v := ?_) rfl (by kernel_rfl) (fun _ _ _ h => h) (Or.inl ⟨by rfl, ?_⟩) (by assumption) ?_
      rotate_left
      · (intro wz hSw; refine Eq.trans (run_index_vec Try.underlying37 (.tmp 54) (.tmp 55) (by rfl) (by rfl) k (by rfl) hlt) ?_; rw [HM.out]; (try with_reducible rfl))
      (try simp only [Act.put, List.setIfInBounds_toArray, List.set_cons_zero, List.set_cons_succ])
      refine wpAnyM_oneS 4 rfl (by kernel_rfl) (fun K hK => ?_)
      go_simp
      (refine (BC.out _).mono ?_); rintro e w3 ⟨rfl, rfl⟩
      (try dsimp only)
      (try simp only [Act.put, List.setIfInBounds_toArray, List.set_cons_zero, List.set_cons_succ])
      clear hHeld
      refine hK.out _ _ ?_ (fun hHeld => ?_)
      · trivial
      clear hK K
      (try simp only [Act.put, List.setIfInBounds_toArray, List.set_cons_zero, List.set_cons_succ])
      refine wpAnyM_one 5 rfl (by kernel_rfl) (fun K hK => ?_)
      go_simp
      refine hK.out _ _ (.inl (by kernel_rfl)) (fun _ => ?_)
      clear hK K
      (try simp only [Act.put, List.setIfInBounds_toArray, List.set_cons_zero, List.set_cons_succ])
      refine wpAnyM_done (by kernel_rfl) ?_ _
      (try clear hHeld)
      go_wp2_with fail
      go_roundw
      case rel => exact ⟨k + 1, by omega, by go_num, S2⟩
      case measure => simp [intOf]; omega
    · have hk24 : k = 24 := by omega
      subst hk24
      rw [show ((24 : Nat) : Int) = 24 from rfl]
      rename World => w8
      have S14 := Lib.hid (stc_fresh R.out)
      clear R hk hlt
      go_upto_region 14 with fail
      obtain ⟨bc, hbc⟩ : ∃ x, w8.heap.size = x := ⟨_, rfl⟩
      rw [hbc] at S14 ⊢
      generalize (w8.alloc (.cells #[.bool false] 42)).alloc (.cells #[.bool false] 46) = W14 at *
      clear hbc
      have KC := Lib.hid (fun (x : World) (a1 : x.cell? ⟨bc, 0, none⟩ = some (.bool false)) (a2 : x.frozen? ⟨bc, 0, none⟩ = false) => keep_any ⟨bc, 0, none⟩ false S x a1 a2)
      have KR := Lib.hid (fun (x : World) (a1 : x.cell? ⟨bc + 1, 0, none⟩ = some (.bool false)) (a2 : x.frozen? ⟨bc + 1, 0, none⟩ = false) => rkeep16_any ⟨bc + 1, 0, none⟩ false S x a1 a2)
      obtain ⟨SF, hSF⟩ : ∃ x, keepF S = x := ⟨_, rfl⟩
      obtain ⟨SH, hSH⟩ : ∃ x, (false || keepH S) = x := ⟨_, rfl⟩
      simp only [hSF, hSH] at KC KR
      clear hSF hSH
      have H14 := Lib.hid S14.out.drew
      refine wp_region_M (fun w' => Blk w' w.heap.size 23 24 S) 5 (by kernel_rfl) ?_ (fun hHeld => ?_)
      · exact H14.out.b.sB
      refine wpAnyM_takeX [2, 5, 6, 7, 8, 9, 10, 11, 12, 13, 14, 15, 16, 17, 18] 0 (v := ?_) rfl (by kernel_rfl) (fun _ _ _ h => h) (Or.inl ⟨by rfl, ?_⟩) (by assumption) ?_
      rotate_left
      · (intro wx hSw; (try dsimp only at hSw); go_simp; (try with_reducible rfl))
      (try simp only [Act.put, List.setIfInBounds_toArray, List.set_cons_zero, List.set_cons_succ])
      refine wpAnyM_takeX [2, 5, 6, 7, 8, 9, 10, 11, 12, 13, 14, 15, 16, 17, 18] 1 (v := ?_) rfl (by kernel_rfl) (fun _ _ _ h => h) (Or.inl ⟨by rfl, ?_⟩) (by assumption) ?_
      rotate_left
      · (intro wz hSw; refine Eq.trans (run_load_row 23 (.tmp 5) (by rfl) (w.heap.size) (by rfl) _ _ _ _ (hSw) Try.underlying23 rfl (ist.trans (by rw [arrv_size]))) ?_; with_reducible rfl)
      (try simp only [Act.put, List.setIfInBounds_toArray, List.set_cons_zero, List.set_cons_succ])
      refine wpAnyM_take 3 (v := ?_) rfl (by kernel_rfl) (fun _ _ _ h => h) (Or.inl ⟨by rfl, ?_⟩) (by assumption) ?_
      rotate_left
      · (intro wx hSw; (try dsimp only at hSw); go_simp; (try with_reducible rfl))
      (try simp only [Act.put, List.setIfInBounds_toArray, List.set_cons_zero, List.set_cons_succ])
      refine wpAnyM_take 4 (v := ?_) rfl (by kernel_rfl) (fun _ _ _ h => h) (Or.inl ⟨by rfl, ?_⟩) (by assumption) ?_
      rotate_left
      · (intro wz hSw; refine Eq.trans (run_load_row 23 (.tmp 5) (by rfl) (w.heap.size) (by rfl) _ _ _ _ (hSw) Try.underlying23 rfl (ist.trans (by rw [arrv_size]))) ?_; with_reducible rfl)
      (try simp only [Act.put, List.setIfInBounds_toArray, List.set_cons_zero, List.set_cons_succ])
      refine wpAnyM_oneS 2 rfl (by kernel_rfl) (fun K hK => ?_)
      go_simp
      (refine (KC.out _ H14.out.c0 H14.out.f0).mono ?_); rintro e v3 ⟨rfl, hu3⟩; have T3 := Lib.hid (H14.out.upd0 hu3)
      (try dsimp only)
      (try simp only [Act.put, List.setIfInBounds_toArray, List.set_cons_zero, List.set_cons_succ])
      clear hHeld
      refine hK.out _ _ ?_ (fun hHeld => ?_)
      · exact T3.out.b.sB
      clear hK K
      (try simp only [Act.put, List.setIfInBounds_toArray, List.set_cons_zero, List.set_cons_succ])
      refine wpAnyM_one 5 rfl (by kernel_rfl) (fun K hK => ?_)
      go_simp
      (refine (KR.out _ T3.out.c1 T3.out.f1).mono ?_); rintro e v4 ⟨rfl, hu4⟩; have T4 := Lib.hid (T3.out.upd1 hu4)
      (try dsimp only)
      (try simp only [Act.put, List.setIfInBounds_toArray, List.set_cons_zero, List.set_cons_succ])
      refine hK.out _ _ (.inl (by kernel_rfl)) (fun _ => ?_)
      clear hK K
      (try simp only [Act.put, List.setIfInBounds_toArray, List.set_cons_zero, List.set_cons_succ])
      refine wpAnyM_switch (fun (w' : World) => w'.cell? ⟨bc, 0, none⟩ = some (.bool SH) ∧ w'.cell? ⟨bc + 1, 0, none⟩ = some (.bool SH)) 18 (by kernel_rfl) ?_ (fun hHeld => ?_)
      · exact ⟨T4.out.c0, T4.out.c1⟩
      refine wpAnyM_takeX [7, 8, 9, 10, 11, 12, 13, 14, 15, 16, 17, 18] 6 (v := ?_) rfl (by kernel_rfl) (fun _ _ _ h => h) (Or.inl ⟨by rfl, ?_⟩) (by assumption) ?_
      rotate_left
      · (intro wz hSw; refine Eq.trans (run_op_neqVec Try.underlying23 (by kernel_rfl) (.tmp 66) (.tmp 69) (by rfl) (by rfl) (by rfl) (eqB_iff.2 fun _ _ => rfl)) ?_; with_reducible rfl)
      (try simp only [Act.put, List.setIfInBounds_toArray, List.set_cons_zero, List.set_cons_succ])
      refine wpAnyM_take 7 (v := ?_) rfl (by kernel_rfl) (fun _ _ _ h => h) (Or.inl ⟨by rfl, ?_⟩) (by assumption) ?_
      rotate_left
      · (intro wx hSw; (try dsimp only at hSw); go_simp; (try with_reducible rfl))
      (try simp only [Act.put, List.setIfInBounds_toArray, List.set_cons_zero, List.set_cons_succ])
      first | (refine wpAnyM_takeX [9, 10, 11, 17, 18] 8 (v := ?_) rfl (by kernel_rfl) (fun _ _ _ h => h) (Or.inl ⟨by rfl, ?_⟩) (by assumption) ?_; rotate_left; focus ((intro wx hSw; (try dsimp only at hSw); go_simp; (try with_reducible rfl)))) | (refine wpAnyM_takeX [9, 10, 11, 17, 18] 8 rfl (by kernel_rfl) (fun _ _ _ h => h) (Or.inr ⟨by rfl, rfl⟩) (by assumption) ?_)
      (try simp only [Act.put, List.setIfInBounds_toArray, List.set_cons_zero, List.set_cons_succ])
      first | (refine wpAnyM_takeX [10, 11, 17, 18] 9 (v := ?_) rfl (by kernel_rfl) (fun _ _ _ h => h) (Or.inl ⟨by rfl, ?_⟩) (by assumption) ?_; rotate_left; focus ((intro wx hSw; (try dsimp only at hSw); go_simp; (try with_reducible rfl)))) | (refine wpAnyM_takeX [10, 11, 17, 18] 9 rfl (by kernel_rfl) (fun _ _ _ h => h) (Or.inr ⟨by rfl, rfl⟩) (by assumption) ?_)
      (try simp only [Act.put, List.setIfInBounds_toArray, List.set_cons_zero, List.set_cons_succ])
      first | (refine wpAnyM_takeX [11, 17, 18] 10 (v := ?_) rfl (by kernel_rfl) (fun _ _ _ h => h) (Or.inl ⟨by rfl, ?_⟩) (by assumption) ?_; rotate_left; focus ((intro wx hSw; (try dsimp only at hSw); go_simp; (try with_reducible rfl)))) | (refine wpAnyM_takeX [11, 17, 18] 10 rfl (by kernel_rfl) (fun _ _ _ h => h) (Or.inr ⟨by rfl, rfl⟩) (by assumption) ?_)
      (try simp only [Act.put, List.setIfInBounds_toArray, List.set_cons_zero, List.set_cons_succ])
      first | (refine wpAnyM_takeX [17, 18] 11 (v := ?_) rfl (by kernel_rfl) (fun _ _ _ h => h) (Or.inl ⟨by rfl, ?_⟩) (by assumption) ?_; rotate_left; focus ((intro wz hSw; obtain ⟨s1, s2⟩ := hSw; go_simp; (try with_reducible rfl)))) | (refine wpAnyM_takeX [17, 18] 11 rfl (by kernel_rfl) (fun _ _ _ h => h) (Or.inr ⟨by rfl, rfl⟩) (by assumption) ?_)
      (try simp only [Act.put, List.setIfInBounds_toArray, List.set_cons_zero, List.set_cons_succ])
      first | (refine wpAnyM_takeX [13, 14, 15, 16, 17, 18] 12 (v := ?_) rfl (by kernel_rfl) (fun _ _ _ h => h) (Or.inl ⟨by rfl, ?_⟩) (by assumption) ?_; rotate_left; focus ((intro wx hSw; (try dsimp only at hSw); go_simp; (try with_reducible rfl)))) | (refine wpAnyM_takeX [13, 14, 15, 16, 17, 18] 12 rfl (by kernel_rfl) (fun _ _ _ h => h) (Or.inr ⟨by rfl, rfl⟩) (by assumption) ?_)
      (try simp only [Act.put, List.setIfInBounds_toArray, List.set_cons_zero, List.set_cons_succ])
      first | (refine wpAnyM_takeX [14, 15, 16, 17, 18] 13 (v := ?_) rfl (by kernel_rfl) (fun _ _ _ h => h) (Or.inl ⟨by rfl, ?_⟩) (by assumption) ?_; rotate_left; focus ((intro wx hSw; (try dsimp only at hSw); go_simp; (try with_reducible rfl)))) | (refine wpAnyM_takeX [14, 15, 16, 17, 18] 13 rfl (by kernel_rfl) (fun _ _ _ h => h) (Or.inr ⟨by rfl, rfl⟩) (by assumption) ?_)
      (try simp only [Act.put, List.setIfInBounds_toArray, List.set_cons_zero, List.set_cons_succ])
      first | (refine wpAnyM_takeX [15, 16, 17, 18] 14 (v := ?_) rfl (by kernel_rfl) (fun _ _ _ h => h) (Or.inl ⟨by rfl, ?_⟩) (by assumption) ?_; rotate_left; focus ((intro wx hSw; (try dsimp only at hSw); go_simp; (try with_reducible rfl)))) | (refine wpAnyM_takeX [15, 16, 17, 18] 14 rfl (by kernel_rfl) (fun _ _ _ h => h) (Or.inr ⟨by rfl, rfl⟩) (by assumption) ?_)
      (try simp only [Act.put, List.setIfInBounds_toArray, List.set_cons_zero, List.set_cons_succ])
      first | (refine wpAnyM_takeX [16, 17, 18] 15 (v := ?_) rfl (by kernel_rfl) (fun _ _ _ h => h) (Or.inl ⟨by rfl, ?_⟩) (by assumption) ?_; rotate_left; focus ((intro wx hSw; (try dsimp only at hSw); go_simp; (try with_reducible rfl)))) | (refine wpAnyM_takeX [16, 17, 18] 15 rfl (by kernel_rfl) (fun _ _ _ h => h) (Or.inr ⟨by rfl, rfl⟩) (by assumption) ?_)
      (try simp only [Act.put, List.setIfInBounds_toArray, List.set_cons_zero, List.set_cons_succ])
      first | (refine wpAnyM_takeX [17, 18] 16 (v := ?_) rfl (by kernel_rfl) (fun _ _ _ h => h) (Or.inl ⟨by rfl, ?_⟩) (by assumption) ?_; rotate_left; focus ((intro wz hSw; obtain ⟨s1, s2⟩ := hSw; go_simp; (try with_reducible rfl)))) | (refine wpAnyM_takeX [17, 18] 16 rfl (by kernel_rfl) (fun _ _ _ h => h) (Or.inr ⟨by rfl, rfl⟩) (by assumption) ?_)
      (try simp only [Act.put, List.setIfInBounds_toArray, List.set_cons_zero, List.set_cons_succ])
      first | (refine wpAnyM_take 17 (v := ?_) rfl (by kernel_rfl) (fun _ _ _ h => h) (Or.inl ⟨by rfl, ?_⟩) (by assumption) ?_; rotate_left; focus ((intro wx hSw; (try dsimp only at hSw); go_simp; (try with_reducible rfl)))) | (refine wpAnyM_take 17 rfl (by kernel_rfl) (fun _ _ _ h => h) (Or.inr ⟨by rfl, rfl⟩) (by assumption) ?_)
      (try simp only [Act.put, List.setIfInBounds_toArray, List.set_cons_zero, List.set_cons_succ])
      refine wpAnyM_one 18 rfl (by kernel_rfl) (fun K hK => ?_)
      go_simp
      refine hK.out _ _ (.inl (by kernel_rfl)) (fun _ => ?_)
      clear hK K
      (try simp only [Act.put, List.setIfInBounds_toArray, List.set_cons_zero, List.set_cons_succ])
      refine wpAnyM_switch (fun (w' : World) => w'.cell? ⟨bc, 0, none⟩ = some (.bool SH) ∧ w'.cell? ⟨bc + 1, 0, none⟩ = some (.bool SH)) 18 (by kernel_rfl) ?_ (fun hHeld => ?_)
      · exact ⟨T4.out.c0, T4.out.c1⟩
      refine wpAnyM_done (by kernel_rfl) ?_ _
      (try clear hHeld)
      clear KC KR H14 T3 hu3 hu4 S14
      have S18 := Lib.hid (stc_fresh T4.out.b)
      go_upto_region 18 with fail
      obtain ⟨bc, hbc⟩ : ∃ x, v4.heap.size = x := ⟨_, rfl⟩
      rw [hbc] at S18 ⊢
      clear T4
      generalize (v4.alloc (.cells #[.bool false] 42)).alloc (.cells #[.bool false] 46) = W18 at *
      clear hbc
      have e24 : two24 D E = D := by funext i; unfold two24; split <;> first | rfl | (rw [HDE.out i (by omega)])
      have e48 : addNF S D 2 = add1F (add1F S D) E ∧ addNH S D 2 = (add1H S D || add1H (add1F S D) E) := by
        have r0 : (fun i => D (0 * 24 + i)) = D := by funext i; rw [Nat.zero_mul, Nat.zero_add]
        have r1 : (fun i => D (1 * 24 + i)) = E := by funext i; rw [HDE.out _ (by omega)]; congr 1; omega
        simp only [addNF, addNH, r0, r1, Bool.false_or]
        exact ⟨trivial, trivial⟩
      have AC := Lib.hid (fun (x : World) (pd : Nat) (a1 : x.cell? ⟨bc, 0, none⟩ = some (.bool false)) (a2 : x.frozen? ⟨bc, 0, none⟩ = false) (a3 : Blk x pd 22 (24 * 2) D) => sadd_any ⟨bc, 0, none⟩ false S D pd 2 2 x a1 a2 (by decide) (by decide) a3)
      have AR := Lib.hid (fun (x : World) (a1 : x.cell? ⟨bc + 1, 0, none⟩ = some (.bool false)) (a2 : x.frozen? ⟨bc + 1, 0, none⟩ = false) => radd16_any ⟨bc + 1, 0, none⟩ false S D x a1 a2)
      have AR2 := Lib.hid (fun (x : World) (g : Bool) (T : Nat → Int) (a1 : x.cell? ⟨bc + 1, 0, none⟩ = some (.bool g)) (a2 : x.frozen? ⟨bc + 1, 0, none⟩ = false) => radd16_any ⟨bc + 1, 0, none⟩ g T E x a1 a2)
      rw [e48.1, e48.2] at AC
      obtain ⟨A1, hA1⟩ : ∃ x, add1F S D = x := ⟨_, rfl⟩
      obtain ⟨F1, hF1⟩ : ∃ x, add1H S D = x := ⟨_, rfl⟩
      simp only [hA1, hF1] at AC AR
      have AR3 := Lib.hid (fun (x : World) (g : Bool) (a1 : x.cell? ⟨bc + 1, 0, none⟩ = some (.bool g)) (a2 : x.frozen? ⟨bc + 1, 0, none⟩ = false) => AR2.out x g A1 a1 a2)
      obtain ⟨A2, hA2⟩ : ∃ x, add1F A1 E = x := ⟨_, rfl⟩
      obtain ⟨F2, hF2⟩ : ∃ x, add1H A1 E = x := ⟨_, rfl⟩
      simp only [hA2, hF2] at AC AR3
      have E24 := Lib.hid e24
      clear hA1 hF1 hA2 hF2 e24 e48 AR2
      have H18 := Lib.hid S18.out.drew
      refine wp_region_M (fun w' => Blk w' w.heap.size 23 24 S ∧ Blk w' (w.heap.size + 1) 22 24 D ∧ Blk w' (w.heap.size + 1 + 1) 22 24 E) 12 (by kernel_rfl) ?_ (fun hHeld => ?_)
      · exact ⟨H18.out.b.sB, H18.out.b.dB, H18.out.b.eB⟩
      refine wpAnyM_takeX [5, 10, 12, 13, 14, 15, 16, 17, 18, 19, 20, 21, 22, 23, 24, 25] 0 (v := ?_) rfl (by kernel_rfl) (fun _ _ _ h => h) (Or.inl ⟨by rfl, ?_⟩) (by assumption) ?_
      rotate_left
      · (intro wx hSw; (try dsimp only at hSw); go_simp; (try with_reducible rfl))
      (try simp only [Act.put, List.setIfInBounds_toArray, List.set_cons_zero, List.set_cons_succ])
      refine wpAnyM_takeX [5, 10, 12, 13, 14, 15, 16, 17, 18, 19, 20, 21, 22, 23, 24, 25] 1 (v := ?_) rfl (by kernel_rfl) (fun _ _ _ h => h) (Or.inl ⟨by rfl, ?_⟩) (by assumption) ?_
      rotate_left
      · (intro wz hSw; refine Eq.trans (run_load_row 23 (.tmp 5) (by rfl) (w.heap.size) (by rfl) _ _ _ _ (hSw.1) Try.underlying23 rfl (ist.trans (by rw [arrv_size]))) ?_; with_reducible rfl)
      (try simp only [Act.put, List.setIfInBounds_toArray, List.set_cons_zero, List.set_cons_succ])
      refine wpAnyM_takeX [4, 5, 10, 12, 13, 14, 15, 16, 17, 18, 19, 20, 21, 22, 23, 24, 25] 2 (v := ?_) rfl (by kernel_rfl) (fun _ _ _ h => h) (Or.inl ⟨by rfl, ?_⟩) (by assumption) ?_
      rotate_left
      · (intro wz hSw; refine Eq.trans (run_load_row 22 (.tmp 6) (by rfl) (w.heap.size + 1) (by rfl) _ _ _ _ (hSw.2.1) Try.underlying22 rfl (icol.trans (by rw [arrv_size]))) ?_; with_reducible rfl)
      (try simp only [Act.put, List.setIfInBounds_toArray, List.set_cons_zero, List.set_cons_succ])
      refine wpAnyM_takeX [4, 5, 10, 12, 13, 14, 15, 16, 17, 18, 19, 20, 21, 22, 23, 24, 25] 3 (v := ?_) rfl (by kernel_rfl) (fun _ _ _ h => h) (Or.inl ⟨by rfl, ?_⟩) (by assumption) ?_
      rotate_left
      · (intro wz hSw; refine Eq.trans (run_load_row 22 (.tmp 7) (by rfl) (w.heap.size + 1 + 1) (by rfl) _ _ _ _ (hSw.2.2) Try.underlying22 rfl (icol.trans (by rw [arrv_size]))) ?_; with_reducible rfl)
      (try simp only [Act.put, List.setIfInBounds_toArray, List.set_cons_zero, List.set_cons_succ])
      refine wpAnyM_take 6 (v := ?_) rfl (by kernel_rfl) (fun _ _ _ h => h) (Or.inl ⟨by rfl, ?_⟩) (by assumption) ?_
      rotate_left
      · (intro wx hSw; (try dsimp only at hSw); go_simp; (try with_reducible rfl))
      (try simp only [Act.put, List.setIfInBounds_toArray, List.set_cons_zero, List.set_cons_succ])
      refine wpAnyM_takeX [10, 12, 13, 14, 15, 16, 17, 18, 19, 20, 21, 22, 23, 24, 25] 7 (v := ?_) rfl (by kernel_rfl) (fun _ _ _ h => h) (Or.inl ⟨by rfl, ?_⟩) (by assumption) ?_
      rotate_left
      · (intro wx hSw; (try dsimp only at hSw); go_simp; (try with_reducible rfl))
      (try simp only [Act.put, List.setIfInBounds_toArray, List.set_cons_zero, List.set_cons_succ])
      refine wpAnyM_takeX [10, 12, 13, 14, 15, 16, 17, 18, 19, 20, 21, 22, 23, 24, 25] 8 (v := ?_) rfl (by kernel_rfl) (fun _ _ _ h => h) (Or.inl ⟨by rfl, ?_⟩) (by assumption) ?_
      rotate_left
      · (intro wz hSw; refine Eq.trans (run_load_row 23 (.tmp 5) (by rfl) (w.heap.size) (by rfl) _ _ _ _ (hSw.1) Try.underlying23 rfl (ist.trans (by rw [arrv_size]))) ?_; with_reducible rfl)
      (try simp only [Act.put, List.setIfInBounds_toArray, List.set_cons_zero, List.set_cons_succ])
      refine wpAnyM_takeX [10, 12, 13, 14, 15, 16, 17, 18, 19, 20, 21, 22, 23, 24, 25] 9 (v := ?_) rfl (by kernel_rfl) (fun _ _ _ h => h) (Or.inl ⟨by rfl, ?_⟩) (by assumption) ?_
      rotate_left
      · (intro wz hSw; refine Eq.trans (run_load_row 22 (.tmp 6) (by rfl) (w.heap.size + 1) (by rfl) _ _ _ _ (hSw.2.1) Try.underlying22 rfl (icol.trans (by rw [arrv_size]))) ?_; with_reducible rfl)
      (try simp only [Act.put, List.setIfInBounds_toArray, List.set_cons_zero, List.set_cons_succ])
      refine wpAnyM_take 11 (v := ?_) rfl (by kernel_rfl) (fun _ _ _ h => h) (Or.inl ⟨by rfl, ?_⟩) (by assumption) ?_
      rotate_left
      · (intro wz hSw; refine Eq.trans (run_load_row 22 (.tmp 7) (by rfl) (w.heap.size + 1 + 1) (by rfl) _ _ _ _ (hSw.2.2) Try.underlying22 rfl (icol.trans (by rw [arrv_size]))) ?_; with_reducible rfl)
      (try simp only [Act.put, List.setIfInBounds_toArray, List.set_cons_zero, List.set_cons_succ])
      refine wpAnyM_oneS 4 rfl (by kernel_rfl) (fun K hK => ?_)
      refine if_pos_of (by rfl) (wp_bsl24two (.tmp 89) (.tmp 90) rfl rfl rfl ?_); (rw [E24.out]); have T1 := Lib.hid (H18.out.alloc (.cells (arrv 48 D) 22)); have D1 := Lib.hid (Blk.new W18.drew 22 48 D)
      clear hHeld
      refine hK.out _ _ ?_ (fun hHeld => ?_)
      · exact ⟨T1.out.b.sB, T1.out.b.dB, T1.out.b.eB⟩
      clear hK K
      (try simp only [Act.put, List.setIfInBounds_toArray, List.set_cons_zero, List.set_cons_succ])
      refine wpAnyM_oneS 5 rfl (by kernel_rfl) (fun K hK => ?_)
      go_simp
      (refine (AC.out _ _ T1.out.c0 T1.out.f0 D1.out).mono ?_); rintro e v5 ⟨rfl, hu5⟩; have T2 := Lib.hid (T1.out.upd0 hu5)
      (try dsimp only)
      (try simp only [Act.put, List.setIfInBounds_toArray, List.set_cons_zero, List.set_cons_succ])
      clear hHeld
      refine hK.out _ _ ?_ (fun hHeld => ?_)
      · exact ⟨T2.out.b.sB, T2.out.b.dB, T2.out.b.eB⟩
      clear hK K
      (try simp only [Act.put, List.setIfInBounds_toArray, List.set_cons_zero, List.set_cons_succ])
      refine wpAnyM_oneS 10 rfl (by kernel_rfl) (fun K hK => ?_)
      go_simp
      (refine (AR.out _ T2.out.c1 T2.out.f1).mono ?_); rintro e v6 ⟨rfl, hu6⟩; have T3 := Lib.hid (T2.out.upd1 hu6)
      (try dsimp only)
      (try simp only [Act.put, List.setIfInBounds_toArray, List.set_cons_zero, List.set_cons_succ])
      clear hHeld
      refine hK.out _ _ ?_ (fun hHeld => ?_)
      · exact ⟨T3.out.b.sB, T3.out.b.dB, T3.out.b.eB⟩
      clear hK K
      (try simp only [Act.put, List.setIfInBounds_toArray, List.set_cons_zero, List.set_cons_succ])
      refine wpAnyM_one 12 rfl (by kernel_rfl) (fun K hK => ?_)
      go_simp
      (refine (AR3.out _ _ T3.out.c1 T3.out.f1).mono ?_); rintro e v7 ⟨rfl, hu7⟩; have T5 := Lib.hid (T3.out.upd1 hu7)
      (try dsimp only)
      (try simp only [Act.put, List.setIfInBounds_toArray, List.set_cons_zero, List.set_cons_succ])
      refine hK.out _ _ (.inl (by kernel_rfl)) (fun _ => ?_)
      clear hK K
      (try simp only [Act.put, List.setIfInBounds_toArray, List.set_cons_zero, List.set_cons_succ])
      refine wpAnyM_switch (fun (w' : World) => w'.cell? ⟨bc, 0, none⟩ = some (.bool (false || (F1 || F2))) ∧ w'.cell? ⟨bc + 1, 0, none⟩ = some (.bool (false || F1 || F2))) 25 (by kernel_rfl) ?_ (fun hHeld => ?_)
      · exact ⟨T5.out.c0, T5.out.c1⟩
      refine wpAnyM_takeX [14, 15, 16, 17, 18, 19, 20, 21, 22, 23, 24, 25] 13 (v := ?_) rfl (by kernel_rfl) (fun _ _ _ h => h) (Or.inl ⟨by rfl, ?_⟩) (by assumption) ?_
      rotate_left
      · (intro wz hSw; refine Eq.trans (run_op_neqVec Try.underlying23 (by kernel_rfl) (.tmp 92) (.tmp 99) (by rfl) (by rfl) (by rfl) (eqB_iff.2 fun _ _ => rfl)) ?_; with_reducible rfl)
      (try simp only [Act.put, List.setIfInBounds_toArray, List.set_cons_zero, List.set_cons_succ])
      refine wpAnyM_take 14 (v := ?_) rfl (by kernel_rfl) (fun _ _ _ h => h) (Or.inl ⟨by rfl, ?_⟩) (by assumption) ?_
      rotate_left
      · (intro wx hSw; (try dsimp only at hSw); go_simp; (try with_reducible rfl))
      (try simp only [Act.put, List.setIfInBounds_toArray, List.set_cons_zero, List.set_cons_succ])
      first | (refine wpAnyM_takeX [16, 17, 18, 24, 25] 15 (v := ?_) rfl (by kernel_rfl) (fun _ _ _ h => h) (Or.inl ⟨by rfl, ?_⟩) (by assumption) ?_; rotate_left; focus ((intro wx hSw; (try dsimp only at hSw); go_simp; (try with_reducible rfl)))) | (refine wpAnyM_takeX [16, 17, 18, 24, 25] 15 rfl (by kernel_rfl) (fun _ _ _ h => h) (Or.inr ⟨by rfl, rfl⟩) (by assumption) ?_)
      (try simp only [Act.put, List.setIfInBounds_toArray, List.set_cons_zero, List.set_cons_succ])
      first | (refine wpAnyM_takeX [17, 18, 24, 25] 16 (v := ?_) rfl (by kernel_rfl) (fun _ _ _ h => h) (Or.inl ⟨by rfl, ?_⟩) (by assumption) ?_; rotate_left; focus ((intro wx hSw; (try dsimp only at hSw); go_simp; (try with_reducible rfl)))) | (refine wpAnyM_takeX [17, 18, 24, 25] 16 rfl (by kernel_rfl) (fun _ _ _ h => h) (Or.inr ⟨by rfl, rfl⟩) (by assumption) ?_)
      (try simp only [Act.put, List.setIfInBounds_toArray, List.set_cons_zero, List.set_cons_succ])
      first | (refine wpAnyM_takeX [18, 24, 25] 17 (v := ?_) rfl (by kernel_rfl) (fun _ _ _ h => h) (Or.inl ⟨by rfl, ?_⟩) (by assumption) ?_; rotate_left; focus ((intro wx hSw; (try dsimp only at hSw); go_simp; (try with_reducible rfl)))) | (refine wpAnyM_takeX [18, 24, 25] 17 rfl (by kernel_rfl) (fun _ _ _ h => h) (Or.inr ⟨by rfl, rfl⟩) (by assumption) ?_)
      (try simp only [Act.put, List.setIfInBounds_toArray, List.set_cons_zero, List.set_cons_succ])
      first | (refine wpAnyM_takeX [24, 25] 18 (v := ?_) rfl (by kernel_rfl) (fun _ _ _ h => h) (Or.inl ⟨by rfl, ?_⟩) (by assumption) ?_; rotate_left; focus ((intro wz hSw; obtain ⟨s1, s2⟩ := hSw; go_simp; (try with_reducible rfl)))) | (refine wpAnyM_takeX [24, 25] 18 rfl (by kernel_rfl) (fun _ _ _ h => h) (Or.inr ⟨by rfl, rfl⟩) (by assumption) ?_)
      (try simp only [Act.put, List.setIfInBounds_toArray, List.set_cons_zero, List.set_cons_succ])
      first | (refine wpAnyM_takeX [20, 21, 22, 23, 24, 25] 19 (v := ?_) rfl (by kernel_rfl) (fun _ _ _ h => h) (Or.inl ⟨by rfl, ?_⟩) (by assumption) ?_; rotate_left; focus ((intro wx hSw; (try dsimp only at hSw); go_simp; (try with_reducible rfl)))) | (refine wpAnyM_takeX [20, 21, 22, 23, 24, 25] 19 rfl (by kernel_rfl) (fun _ _ _ h => h) (Or.inr ⟨by rfl, rfl⟩) (by assumption) ?_)
      (try simp only [Act.put, List.setIfInBounds_toArray, List.set_cons_zero, List.set_cons_succ])
      first | (refine wpAnyM_takeX [21, 22, 23, 24, 25] 20 (v := ?_) rfl (by kernel_rfl) (fun _ _ _ h => h) (Or.inl ⟨by rfl, ?_⟩) (by assumption) ?_; rotate_left; focus ((intro wx hSw; (try dsimp only at hSw); go_simp; (try with_reducible rfl)))) | (refine wpAnyM_takeX [21, 22, 23, 24, 25] 20 rfl (by kernel_rfl) (fun _ _ _ h => h) (Or.inr ⟨by rfl, rfl⟩) (by assumption) ?_)
      (try simp only [Act.put, List.setIfInBounds_toArray, List.set_cons_zero, List.set_cons_succ])
      first | (refine wpAnyM_takeX [22, 23, 24, 25] 21 (v := ?_) rfl (by kernel_rfl) (fun _ _ _ h => h) (Or.inl ⟨by rfl, ?_⟩) (by assumption) ?_; rotate_left; focus ((intro wx hSw; (try dsimp only at hSw); go_simp; (try with_reducible rfl)))) | (refine wpAnyM_takeX [22, 23, 24, 25] 21 rfl (by kernel_rfl) (fun _ _ _ h => h) (Or.inr ⟨by rfl, rfl⟩) (by assumption) ?_)
      (try simp only [Act.put, List.setIfInBounds_toArray, List.set_cons_zero, List.set_cons_succ])
      first | (refine wpAnyM_takeX [23, 24, 25] 22 (v := ?_) rfl (by kernel_rfl) (fun _ _ _ h => h) (Or.inl ⟨by rfl, ?_⟩) (by assumption) ?_; rotate_left; focus ((intro wx hSw; (try dsimp only at hSw); go_simp; (try with_reducible rfl)))) | (refine wpAnyM_takeX [23, 24, 25] 22 rfl (by kernel_rfl) (fun _ _ _ h => h) (Or.inr ⟨by rfl, rfl⟩) (by assumption) ?_)
      (try simp only [Act.put, List.setIfInBounds_toArray, List.set_cons_zero, List.set_cons_succ])
      first | (refine wpAnyM_takeX [24, 25] 23 (v := ?_) rfl (by kernel_rfl) (fun _ _ _ h => h) (Or.inl ⟨by rfl, ?_⟩) (by assumption) ?_; rotate_left; focus ((intro wz hSw; obtain ⟨s1, s2⟩ := hSw; go_simp; (try with_reducible rfl)))) | (refine wpAnyM_takeX [24, 25] 23 rfl (by kernel_rfl) (fun _ _ _ h => h) (Or.inr ⟨by rfl, rfl⟩) (by assumption) ?_)
      (try simp only [Act.put, List.setIfInBounds_toArray, List.set_cons_zero, List.set_cons_succ])
      first | (refine wpAnyM_take 24 (v := ?_) rfl (by kernel_rfl) (fun _ _ _ h => h) (Or.inl ⟨by rfl, ?_⟩) (by assumption) ?_; rotate_left; focus ((intro wx hSw; (try dsimp only at hSw); go_simp; (try with_reducible rfl)))) | (refine wpAnyM_take 24 rfl (by kernel_rfl) (fun _ _ _ h => h) (Or.inr ⟨by rfl, rfl⟩) (by assumption) ?_)
      (try simp only [Act.put, List.setIfInBounds_toArray, List.set_cons_zero, List.set_cons_succ])
      refine wpAnyM_one 25 rfl (by kernel_rfl) (fun K hK => ?_)
      go_simp
      refine hK.out _ _ (.inl (by kernel_rfl)) (fun _ => ?_)
      clear hK K
      (try simp only [Act.put, List.setIfInBounds_toArray, List.set_cons_zero, List.set_cons_succ])
      refine wpAnyM_switch (fun (w' : World) => w'.cell? ⟨bc, 0, none⟩ = some (.bool (false || (F1 || F2))) ∧ w'.cell? ⟨bc + 1, 0, none⟩ = some (.bool (false || F1 || F2))) 25 (by kernel_rfl) ?_ (fun hHeld => ?_)
      · exact ⟨T5.out.c0, T5.out.c1⟩
      refine wpAnyM_done (by kernel_rfl) ?_ _
      (try clear hHeld)
      have S20 := Lib.hid T5.out.b
      clear AC AR AR3 H18 T1 T2 T3 T5 hu5 hu6 hu7 S18 D1
      have s20 := S20.out.sB
      go_upto_region 20 with fail
      have RE : Blk (v7.alloc (.cells #[.int .i64 0, .int .i64 0, .int .i64 0, .int .i64 0, .int .i64 0, .int .i64 0, .int .i64 0, .int .i64 0, .int .i64 0, .int .i64 0, .int .i64 0, .int .i64 0, .int .i64 0, .int .i64 0, .int .i64 0, .int .i64 0, .int .i64 0, .int .i64 0, .int .i64 0, .int .i64 0, .int .i64 0, .int .i64 0, .int .i64 0, .int .i64 0] 23)) v7.heap.size 23 24 (fun _ => 0) := by rw [zvec24]; exact Blk.new _ _ 24 _
      refine wp_region_lit ?_
      refine wpList_val (v := ?_) rfl ?_ ?_
      rotate_left
      · refine Eq.trans (run_load_row 23 (.tmp 5) (by rfl) (w.heap.size) (by rfl) _ _ _ _ (s20) Try.underlying23 rfl (ist.trans (by rw [arrv_size]))) ?_; with_reducible rfl
      (try simp only [Act.put, List.setIfInBounds_toArray, List.set_cons_zero, List.set_cons_succ])
      refine wpList_act (v := ?_) (w' := ?_) rfl ?_ ?_
      rotate_left 2
      · (go_simp; (try (first | with_reducible rfl | (constructor <;> with_reducible rfl))))
      (try simp only [Act.put, List.setIfInBounds_toArray, List.set_cons_zero, List.set_cons_succ])
      refine wpList_done (w' := ?_) rfl ?_ ?_
      rotate_left
      · refine Eq.trans (run_store_row 23 (.tmp 14) (.tmp 113) (by rfl) (v7.heap.size) (by rfl) (by rfl) (RE) (ist.trans rfl)) ?_; with_reducible rfl
      (try simp only [Act.put, List.setIfInBounds_toArray, List.set_cons_zero, List.set_cons_succ])
      refine wpList_nil ?_
      obtain ⟨bw, hbw⟩ : ∃ x, v7.heap.size = x := ⟨_, rfl⟩
      have ho : w.heap.size + 1 + 1 < bw := by rw [← hbw]; exact S20.out.eB.lt
      have L0 : Hid (StB S D E w ((v7.alloc (.cells #[.int .i64 0, .int .i64 0, .int .i64 0, .int .i64 0, .int .i64 0, .int .i64 0, .int .i64 0, .int .i64 0, .int .i64 0, .int .i64 0, .int .i64 0, .int .i64 0, .int .i64 0, .int .i64 0, .int .i64 0, .int .i64 0, .int .i64 0, .int .i64 0, .int .i64 0, .int .i64 0, .int .i64 0, .int .i64 0, .int .i64 0, .int .i64 0] 23)).setRow v7.heap.size (arrv 24 S)) ∧ Blk ((v7.alloc (.cells #[.int .i64 0, .int .i64 0, .int .i64 0, .int .i64 0, .int .i64 0, .int .i64 0, .int .i64 0, .int .i64 0, .int .i64 0, .int .i64 0, .int .i64 0, .int .i64 0, .int .i64 0, .int .i64 0, .int .i64 0, .int .i64 0, .int .i64 0, .int .i64 0, .int .i64 0, .int .i64 0, .int .i64 0, .int .i64 0, .int .i64 0, .int .i64 0] 23)).setRow v7.heap.size (arrv 24 S)) v7.heap.size 23 24 (withF S fr 0 L)) :=
        Lib.hid ⟨S20.out.down (below_row ((Below.refl _ _).alloc (Nat.le_refl _) _) (Nat.le_refl _) _), (RE.setRow S).congr fun i hi => by unfold withF; rw [if_neg (by omega)]⟩
      generalize (v7.alloc (.cells #[.int .i64 0, .int .i64 0, .int .i64 0, .int .i64 0, .int .i64 0, .int .i64 0, .int .i64 0, .int .i64 0, .int .i64 0, .int .i64 0, .int .i64 0, .int .i64 0, .int .i64 0, .int .i64 0, .int .i64 0, .int .i64 0, .int .i64 0, .int .i64 0, .int .i64 0, .int .i64 0, .int .i64 0, .int .i64 0, .int .i64 0, .int .i64 0] 23)).setRow v7.heap.size (arrv 24 S) = W20 at *
      rw [hbw] at L0 ⊢
      clear RE hbw S20 s20
      go_wp2_with fail
      go_loopw [15] (fun i wr => ∃ k : Nat, k ≤ n ∧ i = .int .i64 k ∧ Hid (StB S D E w wr ∧ Blk wr bw 23 24 (withF S fr k L))) (fun i _ => n - (intOf i).toNat)
      case atStart => exact ⟨0, by omega, rfl, L0⟩
      case round =>
        obtain ⟨k, hk, rfl, R⟩ := hrel
        clear L0
        have hn := HN.out.1
        have hf1 := HN.out.2.1
        have hf2 := HN.out.2.2
        by_cases hlt : k < n
        · have e1 : decide ((k : Int) < (n : Int)) = true := by simp; omega
          obtain ⟨pb, po, rfl, hcell⟩ := HL.out k hlt
          have hc1 : wr.cell? ⟨pb, po + k, none⟩ = some (.int .i64 (L k)) := (R.out.1.below.cell (World.block_lt_of_cell? _ _ hcell)).trans hcell
          have kw : IntKind.i64.wrap (fr + (k : Int)) = fr + (k : Int) := IntWalk.i64_in _ (by omega)
          by_cases hin : 0 ≤ fr + (k : Int) ∧ fr + (k : Int) < 24
          · obtain ⟨i, hi⟩ : ∃ i : Nat, fr + (k : Int) = (i : Int) := ⟨(fr + (k : Int)).toNat, by omega⟩
            have hi24 : i < 24 := by omega
            rw [hi] at kw
            have p1 : decide ((0 : Int) ≤ (i : Int)) = true := by simp
            have p2 : decide ((i : Int) < 24) = true := by simp; omega
            have k0 : (0 : Int) ≤ (i : Int) := Int.natCast_nonneg _
            have k1 : (i : Int) < 24 := by omega
            have m0 := R.out.2.cell (i := i) hi24
            have m1 := R.out.2.free i
            have RA : Hid (StB S D E w (wr.setCell ⟨bw, i, none⟩ (.int .i64 (L k))) ∧ Blk (wr.setCell ⟨bw, i, none⟩ (.int .i64 (L k))) bw 23 24 (withF S fr (k + 1) L)) := by
              refine Lib.hid ⟨⟨R.out.1.below.setCell (by simp; omega) _, R.out.1.sB.other (by simp; omega) _, R.out.1.dB.other (by simp; omega) _, R.out.1.eB.other (by simp; omega) _⟩, (R.out.2.set i (L k)).congr fun j hj => ?_⟩
              unfold Go.Proofs.Ytcibndlpnfikhaa.upd withF
              by_cases h1 : j = i
              · subst h1; rw [if_pos rfl, if_pos (by omega), show ((j : Int) - fr).toNat = k by omega]
              · rw [if_neg h1]
                by_cases h2 : fr ≤ (j : Int) ∧ (j : Int) < fr + (k : Int)
                · rw [if_pos h2, if_pos (by omega)]
                · rw [if_neg h2, if_neg (by omega)]
            have HI := Lib.hid hi
            obtain ⟨x, hx⟩ : ∃ x, L k = x := ⟨_, rfl⟩
            rw [hx] at hc1 RA
            clear hin hcell R hx hi
            go_upto_region 24 with fail
            refine wp_region_lit ?_
            refine wpList_val (v := ?_) rfl ?_ ?_
            rotate_left
            · (go_simp; (try (first | with_reducible rfl | (constructor <;> with_reducible rfl))))
            (try simp only [Act.put, List.setIfInBounds_toArray, List.set_cons_zero, List.set_cons_succ])
            refine wpList_val (v := ?_) rfl ?_ ?_
            rotate_left
            · (go_simp; (try (first | with_reducible rfl | (constructor <;> with_reducible rfl))))
            (try simp only [Act.put, List.setIfInBounds_toArray, List.set_cons_zero, List.set_cons_succ])
            refine wpList_val (v := ?_) rfl ?_ ?_
            rotate_left
            · (go_simp; (try simp only [HI.out]); (try rw [kw]); (try with_reducible rfl))
            (try simp only [Act.put, List.setIfInBounds_toArray, List.set_cons_zero, List.set_cons_succ])
            refine wpList_val (v := ?_) rfl ?_ ?_
            rotate_left
            · (go_simp; (try simp only [p1]); (try with_reducible rfl))
            (try simp only [Act.put, List.setIfInBounds_toArray, List.set_cons_zero, List.set_cons_succ])
            refine wpList_val (v := ?_) rfl ?_ ?_
            rotate_left
            · (go_simp; (try (first | with_reducible rfl | (constructor <;> with_reducible rfl))))
            (try simp only [Act.put, List.setIfInBounds_toArray, List.set_cons_zero, List.set_cons_succ])
            first | (refine wpList_val (v := ?_) (by rfl) ?_ ?_; rotate_left; focus ((go_simp; (try (first | with_reducible rfl | (constructor <;> with_reducible rfl)))))) | refine wpList_skip (by rfl) ?_
            (try simp only [Act.put, List.setIfInBounds_toArray, List.set_cons_zero, List.set_cons_succ])
            first | (refine wpList_val (v := ?_) (by rfl) ?_ ?_; rotate_left; focus ((go_simp; (try (first | with_reducible rfl | (constructor <;> with_reducible rfl)))))) | refine wpList_skip (by rfl) ?_
            (try simp only [Act.put, List.setIfInBounds_toArray, List.set_cons_zero, List.set_cons_succ])
            first | (refine wpList_val (v := ?_) (by rfl) ?_ ?_; rotate_left; focus ((go_simp; (try simp only [HI.out]); (try rw [kw]); (try with_reducible rfl)))) | refine wpList_skip (by rfl) ?_
            (try simp only [Act.put, List.setIfInBounds_toArray, List.set_cons_zero, List.set_cons_succ])
            first | (refine wpList_val (v := ?_) (by rfl) ?_ ?_; rotate_left; focus ((go_simp; (try simp only [p2]); (try with_reducible rfl)))) | refine wpList_skip (by rfl) ?_
            (try simp only [Act.put, List.setIfInBounds_toArray, List.set_cons_zero, List.set_cons_succ])
            refine wpList_val (v := ?_) rfl ?_ ?_
            rotate_left
            · (go_simp; (try (first | with_reducible rfl | (constructor <;> with_reducible rfl))))
            (try simp only [Act.put, List.setIfInBounds_toArray, List.set_cons_zero, List.set_cons_succ])
            refine wpList_nil ?_
            go_upto_region 25 with fail
            refine wp_region_lit ?_
            refine wpList_val (v := ?_) rfl ?_ ?_
            rotate_left
            · (go_simp; (try (first | with_reducible rfl | (constructor <;> with_reducible rfl))))
            (try simp only [Act.put, List.setIfInBounds_toArray, List.set_cons_zero, List.set_cons_succ])
            refine wpList_val (v := ?_) rfl ?_ ?_
            rotate_left
            · (go_simp; (try (first | with_reducible rfl | (constructor <;> with_reducible rfl))))
            (try simp only [Act.put, List.setIfInBounds_toArray, List.set_cons_zero, List.set_cons_succ])
            refine wpList_val (v := ?_) rfl ?_ ?_
            rotate_left
            · (go_simp; (try simp only [HI.out]); (try rw [kw]); (try with_reducible rfl))
            (try simp only [Act.put, List.setIfInBounds_toArray, List.set_cons_zero, List.set_cons_succ])
            refine wpList_val (v := ?_) rfl ?_ ?_
            rotate_left
            · (go_simp; (try (first | with_reducible rfl | (constructor <;> with_reducible rfl))))
            (try simp only [Act.put, List.setIfInBounds_toArray, List.set_cons_zero, List.set_cons_succ])
            refine wpList_val (v := ?_) rfl ?_ ?_
            rotate_left
            · (go_simp; (try (first | with_reducible rfl | (constructor <;> with_reducible rfl))))
            (try simp only [Act.put, List.setIfInBounds_toArray, List.set_cons_zero, List.set_cons_succ])
            refine wpList_val (v := ?_) rfl ?_ ?_
            rotate_left
            · (go_simp; (try (first | with_reducible rfl | (constructor <;> with_reducible rfl))))
            (try simp only [Act.put, List.setIfInBounds_toArray, List.set_cons_zero, List.set_cons_succ])
            refine wpList_val (v := ?_) rfl ?_ ?_
            rotate_left
            · (go_simp; (try (first | with_reducible rfl | (constructor <;> with_reducible rfl))))
            (try simp only [Act.put, List.setIfInBounds_toArray, List.set_cons_zero, List.set_cons_succ])
            refine wpList_val (v := ?_) rfl ?_ ?_
            rotate_left
            · (go_simp; (try (first | with_reducible rfl | (constructor <;> with_reducible rfl))))
            (try simp only [Act.put, List.setIfInBounds_toArray, List.set_cons_zero, List.set_cons_succ])
            refine wpList_done (w' := ?_) rfl ?_ ?_
            rotate_left
            · (go_simp; (try (first | with_reducible rfl | (constructor <;> with_reducible rfl))))
            (try simp only [Act.put, List.setIfInBounds_toArray, List.set_cons_zero, List.set_cons_succ])
            refine wpList_nil ?_
            go_wp2_with fail
            go_roundw
            case rel => exact ⟨k + 1, by omega, by go_num, RA⟩
            case measure => simp [intOf]; omega
          · have RN : Hid (StB S D E w wr ∧ Blk wr bw 23 24 (withF S fr (k + 1) L)) := by
              refine Lib.hid ⟨R.out.1, R.out.2.congr fun j hj => ?_⟩
              unfold withF
              by_cases h2 : fr ≤ (j : Int) ∧ (j : Int) < fr + (k : Int)
              · rw [if_pos h2, if_pos (by omega)]
              · rw [if_neg h2, if_neg (by omega)]
            obtain ⟨x, hx⟩ : ∃ x, fr + (k : Int) = x := ⟨_, rfl⟩
            rw [hx] at kw hin
            have HX := Lib.hid hx
            clear hcell hc1 R hx
            by_cases q1 : 0 ≤ x
            · have p1 : decide (0 ≤ x) = true := by simpa using q1
              have p2 : decide (x < 24) = false := by simp; omega
              go_upto_region 24 with fail
              refine wp_region_lit ?_
              refine wpList_val (v := ?_) rfl ?_ ?_
              rotate_left
              · (go_simp; (try (first | with_reducible rfl | (constructor <;> with_reducible rfl))))
              (try simp only [Act.put, List.setIfInBounds_toArray, List.set_cons_zero, List.set_cons_succ])
              refine wpList_val (v := ?_) rfl ?_ ?_
              rotate_left
              · (go_simp; (try (first | with_reducible rfl | (constructor <;> with_reducible rfl))))
              (try simp only [Act.put, List.setIfInBounds_toArray, List.set_cons_zero, List.set_cons_succ])
              refine wpList_val (v := ?_) rfl ?_ ?_
              rotate_left
              · (go_simp; (try simp only [HX.out]); (try rw [kw]); (try with_reducible rfl))
              (try simp only [Act.put, List.setIfInBounds_toArray, List.set_cons_zero, List.set_cons_succ])
              refine wpList_val (v := ?_) rfl ?_ ?_
              rotate_left
              · (go_simp; (try simp only [p1]); (try with_reducible rfl))
              (try simp only [Act.put, List.setIfInBounds_toArray, List.set_cons_zero, List.set_cons_succ])
              refine wpList_val (v := ?_) rfl ?_ ?_
              rotate_left
              · (go_simp; (try (first | with_reducible rfl | (constructor <;> with_reducible rfl))))
              (try simp only [Act.put, List.setIfInBounds_toArray, List.set_cons_zero, List.set_cons_succ])
              first | (refine wpList_val (v := ?_) (by rfl) ?_ ?_; rotate_left; focus ((go_simp; (try (first | with_reducible rfl | (constructor <;> with_reducible rfl)))))) | refine wpList_skip (by rfl) ?_
              (try simp only [Act.put, List.setIfInBounds_toArray, List.set_cons_zero, List.set_cons_succ])
              first | (refine wpList_val (v := ?_) (by rfl) ?_ ?_; rotate_left; focus ((go_simp; (try (first | with_reducible rfl | (constructor <;> with_reducible rfl)))))) | refine wpList_skip (by rfl) ?_
              (try simp only [Act.put, List.setIfInBounds_toArray, List.set_cons_zero, List.set_cons_succ])
              first | (refine wpList_val (v := ?_) (by rfl) ?_ ?_; rotate_left; focus ((go_simp; (try simp only [HX.out]); (try rw [kw]); (try with_reducible rfl)))) | refine wpList_skip (by rfl) ?_
              (try simp only [Act.put, List.setIfInBounds_toArray, List.set_cons_zero, List.set_cons_succ])
              first | (refine wpList_val (v := ?_) (by rfl) ?_ ?_; rotate_left; focus ((go_simp; (try simp only [p2]); (try with_reducible rfl)))) | refine wpList_skip (by rfl) ?_
              (try simp only [Act.put, List.setIfInBounds_toArray, List.set_cons_zero, List.set_cons_succ])
              refine wpList_val (v := ?_) rfl ?_ ?_
              rotate_left
              · (go_simp; (try (first | with_reducible rfl | (constructor <;> with_reducible rfl))))
              (try simp only [Act.put, List.setIfInBounds_toArray, List.set_cons_zero, List.set_cons_succ])
              refine wpList_nil ?_
              go_wp2_with fail
              go_roundw
              case rel => exact ⟨k + 1, by omega, by go_num, RN⟩
              case measure => simp [intOf]; omega
            · have p1 : decide (0 ≤ x) = false := by simpa using q1
              go_upto_region 24 with fail
              refine wp_region_lit ?_
              refine wpList_val (v := ?_) rfl ?_ ?_
              rotate_left
              · (go_simp; (try (first | with_reducible rfl | (constructor <;> with_reducible rfl))))
              (try simp only [Act.put, List.setIfInBounds_toArray, List.set_cons_zero, List.set_cons_succ])
              refine wpList_val (v := ?_) rfl ?_ ?_
              rotate_left
              · (go_simp; (try (first | with_reducible rfl | (constructor <;> with_reducible rfl))))
              (try simp only [Act.put, List.setIfInBounds_toArray, List.set_cons_zero, List.set_cons_succ])
              refine wpList_val (v := ?_) rfl ?_ ?_
              rotate_left
              · (go_simp; (try simp only [HX.out]); (try rw [kw]); (try with_reducible rfl))
              (try simp only [Act.put, List.setIfInBounds_toArray, List.set_cons_zero, List.set_cons_succ])
              refine wpList_val (v := ?_) rfl ?_ ?_
              rotate_left
              · (go_simp; (try simp only [p1]); (try with_reducible rfl))
              (try simp only [Act.put, List.setIfInBounds_toArray, List.set_cons_zero, List.set_cons_succ])
              refine wpList_val (v := ?_) rfl ?_ ?_
              rotate_left
              · (go_simp; (try (first | with_reducible rfl | (constructor <;> with_reducible rfl))))
              (try simp only [Act.put, List.setIfInBounds_toArray, List.set_cons_zero, List.set_cons_succ])
              first | (refine wpList_val (v := ?_) (by rfl) ?_ ?_; rotate_left; focus ((go_simp; (try (first | with_reducible rfl | (constructor <;> with_reducible rfl)))))) | refine wpList_skip (by rfl) ?_
              (try simp only [Act.put, List.setIfInBounds_toArray, List.set_cons_zero, List.set_cons_succ])
              first | (refine wpList_val (v := ?_) (by rfl) ?_ ?_; rotate_left; focus ((go_simp; (try (first | with_reducible rfl | (constructor <;> with_reducible rfl)))))) | refine wpList_skip (by rfl) ?_
              (try simp only [Act.put, List.setIfInBounds_toArray, List.set_cons_zero, List.set_cons_succ])
              first | (refine wpList_val (v := ?_) (by rfl) ?_ ?_; rotate_left; focus ((go_simp; (try (first | with_reducible rfl | (constructor <;> with_reducible rfl)))))) | refine wpList_skip (by rfl) ?_
              (try simp only [Act.put, List.setIfInBounds_toArray, List.set_cons_zero, List.set_cons_succ])
              first | (refine wpList_val (v := ?_) (by rfl) ?_ ?_; rotate_left; focus ((go_simp; (try (first | with_reducible rfl | (constructor <;> with_reducible rfl)))))) | refine wpList_skip (by rfl) ?_
              (try simp only [Act.put, List.setIfInBounds_toArray, List.set_cons_zero, List.set_cons_succ])
              refine wpList_val (v := ?_) rfl ?_ ?_
              rotate_left
              · (go_simp; (try (first | with_reducible rfl | (constructor <;> with_reducible rfl))))
              (try simp only [Act.put, List.setIfInBounds_toArray, List.set_cons_zero, List.set_cons_succ])
              refine wpList_nil ?_
              go_wp2_with fail
              go_roundw
              case rel => exact ⟨k + 1, by omega, by go_num, RN⟩
              case measure => simp [intOf]; omega
        · have hkn : k = n := by omega
          subst hkn
          have e1 : decide ((k : Int) < (k : Int)) = false := by simp
          have R0 := Lib.hid (And.intro R.out.1.drew (show Blk wr.drew bw 23 24 (withF S fr k L) from R.out.2))
          obtain ⟨WF, hWF⟩ : ∃ x, withF S fr k L = x := ⟨_, rfl⟩
          have SW := Lib.hid (fun (x : World) (qq : Option Addr) (cc : Nat) (a1 : Slc x qq k L) => swith_any S fr qq k cc L x (by omega) (by omega) (by omega) a1)
          simp only [hWF] at SW
          rw [hWF] at R0
          clear hWF R
          go_upto_region 26 with fail
          refine wp_region_M (fun w' => Blk w' w.heap.size 23 24 S ∧ Blk w' bw 23 24 WF) 8 (by kernel_rfl) ?_ (fun hHeld => ?_)
          · exact ⟨R0.out.1.sB, R0.out.2⟩
          refine wpAnyM_take 0 (v := ?_) rfl (by kernel_rfl) (fun _ _ _ h => h) (Or.inl ⟨by rfl, ?_⟩) (by assumption) ?_
          rotate_left
          · (intro wz hSw; refine Eq.trans (run_load_row 23 (.tmp 5) (by rfl) (w.heap.size) (by rfl) _ _ _ _ (hSw.1) Try.underlying23 rfl (ist.trans (by rw [arrv_size]))) ?_; with_reducible rfl)
          (try simp only [Act.put, List.setIfInBounds_toArray, List.set_cons_zero, List.set_cons_succ])
          refine wpAnyM_take 1 (v := ?_) rfl (by kernel_rfl) (fun _ _ _ h => h) (Or.inl ⟨by rfl, ?_⟩) (by assumption) ?_
          rotate_left
          · (intro wx hSw; (try dsimp only at hSw); go_simp; (try with_reducible rfl))
          (try simp only [Act.put, List.setIfInBounds_toArray, List.set_cons_zero, List.set_cons_succ])
          refine wpAnyM_take 3 (v := ?_) rfl (by kernel_rfl) (fun _ _ _ h => h) (Or.inl ⟨by rfl, ?_⟩) (by assumption) ?_
          rotate_left
          · (intro wx hSw; (try dsimp only at hSw); go_simp; (try with_reducible rfl))
          (try simp only [Act.put, List.setIfInBounds_toArray, List.set_cons_zero, List.set_cons_succ])
          refine wpAnyM_take 6 (v := ?_) rfl (by kernel_rfl) (fun _ _ _ h => h) (Or.inl ⟨by rfl, ?_⟩) (by assumption) ?_
          rotate_left
          · (intro wz hSw; refine Eq.trans (run_load_row 23 (.tmp 14) (by rfl) (bw) (by rfl) _ _ _ _ (hSw.2) Try.underlying23 rfl (ist.trans (by rw [arrv_size]))) ?_; with_reducible rfl)
          (try simp only [Act.put, List.setIfInBounds_toArray, List.set_cons_zero, List.set_cons_succ])
          refine wpAnyM_oneS 2 rfl (by kernel_rfl) (fun K hK => ?_)
          rw [if_pos (by rfl)]; refine wp_bsl0_i64 (by rfl) ?_; have R1 := Lib.hid (And.intro (R0.out.1.down ((Below.refl _ _).alloc (Nat.le_refl _) (.cells #[] 2))) (R0.out.2.alloc (.cells #[] 2)))
          clear hHeld
          refine hK.out _ _ ?_ (fun hHeld => ?_)
          · exact ⟨R1.out.1.sB, R1.out.2⟩
          clear hK K
          (try simp only [Act.put, List.setIfInBounds_toArray, List.set_cons_zero, List.set_cons_succ])
          refine wpAnyM_oneS 4 rfl (by kernel_rfl) (fun K hK => ?_)
          rw [if_pos (by rfl)]; refine wp_appAll_i64 (.tmp 140) (.tmp 141) (by rfl) _ q k cp L (by rfl) (by rfl) (HL.out.below R1.out.1.below) (by omega) ?_; intro q2 cp2 v2 hb2 hs2; have R2 := Lib.hid (And.intro (R1.out.1.down hb2) (R1.out.2.below hb2)); have Q2 := Lib.hid hs2
          clear hHeld
          refine hK.out _ _ ?_ (fun hHeld => ?_)
          · exact ⟨R2.out.1.sB, R2.out.2⟩
          clear hK K
          (try simp only [Act.put, List.setIfInBounds_toArray, List.set_cons_zero, List.set_cons_succ])
          refine wpAnyM_oneS 5 rfl (by kernel_rfl) (fun K hK => ?_)
          go_simp
          (refine (SW.out _ _ _ Q2.out).mono ?_); rintro e v3 ⟨rfl, hb3⟩; have R3 := Lib.hid (And.intro (R2.out.1.down hb3) (R2.out.2.below hb3))
          (try dsimp only)
          (try simp only [Act.put, List.setIfInBounds_toArray, List.set_cons_zero, List.set_cons_succ])
          clear hHeld
          refine hK.out _ _ ?_ (fun hHeld => ?_)
          · exact ⟨R3.out.1.sB, R3.out.2⟩
          clear hK K
          (try simp only [Act.put, List.setIfInBounds_toArray, List.set_cons_zero, List.set_cons_succ])
          refine wpAnyM_take 7 (v := ?_) rfl (by kernel_rfl) (fun _ _ _ h => h) (Or.inl ⟨by rfl, ?_⟩) (by assumption) ?_
          rotate_left
          · (intro wz hSw; refine Eq.trans (run_op_eqlVec Try.underlying23 (by kernel_rfl) (.tmp 143) (.tmp 144) (by rfl) (by rfl) (by rfl) (eqB_iff.2 fun _ _ => rfl)) ?_; with_reducible rfl)
          (try simp only [Act.put, List.setIfInBounds_toArray, List.set_cons_zero, List.set_cons_succ])
          refine wpAnyM_one 8 rfl (by kernel_rfl) (fun K hK => ?_)
          go_simp
          refine hK.out _ _ (.inl (by kernel_rfl)) (fun _ => ?_)
          clear hK K
          (try simp only [Act.put, List.setIfInBounds_toArray, List.set_cons_zero, List.set_cons_succ])
          refine wpAnyM_done (by kernel_rfl) ?_ _
          go_wp2_with fail
          go_ret
          exact ⟨rfl, R3.out.1.below⟩
theorem says15_all (S D E : Nat → Int) (fr : Int) (q : Option Addr) (n cp : Nat) (L : Nat → Int) (w : World) (hL : Slc w q n L) :
    Calls Try.prog 3 #[.agg (arrv 24 S), .agg (arrv 24 D), .agg (arrv 24 E), .int .i64 fr, .slice q n cp] w fun e w' => e = .returned (.bool true) ∧ Below w.heap.size w w' := by
  by_cases h1 : n ≤ 30
  · by_cases h3 : -900 ≤ fr
    · by_cases h4 : fr ≤ 900
      · rw [arrv_congr (f := D) (g := two24 D E) fun i hi => by unfold two24; rw [if_pos hi]]
        exact says15_main S (two24 D E) E fr q n cp L w h1 ⟨h3, h4⟩ hL (fun i hi => by unfold two24; rw [if_neg (by omega)])
      · exact says15_noop S D E fr q n cp w (.inr (.inr ⟨h1, h3, by omega⟩))
    · exact says15_noop S D E fr q n cp w (.inr (.inl ⟨h1, by omega⟩))
  · exact says15_noop S D E fr q n cp w (.inl (by omega))
end Go.Proofs.Ytcibndlpnfikhaa
