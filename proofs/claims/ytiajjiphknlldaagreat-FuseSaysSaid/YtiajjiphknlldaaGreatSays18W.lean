/- The walk of FuseSays. -/
import Derived.Test.YtiajjiphknlldaaGreatQ12
import Derived.Test.YtiajjiphknlldaaGreatQ19
import Derived.Test.YtiajjiphknlldaaGreatQ10
import Derived.Test.YtiajjiphknlldaaGreatQ14
import Derived.Deep.QuietTactic
import Derived.BigQuiet
namespace Go.Proofs.YtiajjiphknlldaaGreat
open Go.RowKit
set_option maxRecDepth 100000
theorem obF_self (O : Nat → Int) : arrv 27 (obF O (O 24) (O 25) (O 26)) = arrv 27 O := arrv_congr fun i hi => by
  unfold obF
  by_cases h1 : i < 24
  · rw [if_pos h1]
  · rw [if_neg h1]
    by_cases h2 : i = 24
    · rw [if_pos h2, h2]
    · rw [if_neg h2]
      by_cases h3 : i = 25
      · rw [if_pos h3, h3]
      · rw [if_neg h3, show i = 26 by omega]
open Go in
theorem run_build_robs4 {o : Oper} {ev : Operand → Value} {w : World} (x y z u : Operand) (ho : o.op = .build 46 #[(0, x), (1, y), (2, z), (3, u)]) {H : Nat → Int} {m r g : Int} (hx : ev x = .agg (arrv 24 H)) (hy : ev y = .int .i64 m) (hz : ev z = .int .i64 r) (hu : ev u = .int .i64 g) :
    (execOp ev o).run Tryz.prog w = .ok (.value (.agg (arrv 27 (obF H m r g)))) w := by
  unfold execOp
  simp only [ho, List.map_toArray, List.map_cons, List.map_nil, hx, hy, hz, hu]
  kernel_rfl
open Go in
theorem run_load_rres {o : Oper} {ev : Operand → Value} {w : World} (x : Operand) (ho : o.op = .load 42 x) (b : Nat) (hx : ev x = .pointer (some ⟨b, 0, none⟩)) (t : Bool) (y s : Int) (h : RRes w b t y s) :
    (execOp ev o).run Tryz.prog w = .ok (.value (.agg (res3 t y s))) w := by
  have hi : (Tryz.prog.info? 42).map (·.size) = some 3 := by kernel_rfl
  have k := run_loadVar_mid (P := Tryz.prog) w b 0 42 (res3 t y s).toList _ (fun j v hv => by
    have hj : j < 3 := (List.getElem?_eq_some_iff.1 hv).1
    rcases (show j = 0 ∨ j = 1 ∨ j = 2 by omega) with e | e | e
    · rw [e] at hv ⊢; simp [res3] at hv; rw [← hv]; exact h.c.1.1
    · rw [e] at hv ⊢; simp [res3] at hv; rw [← hv]; exact h.c.1.2.1
    · rw [e] at hv ⊢; simp [res3] at hv; rw [← hv]; exact h.c.1.2.2) Tryz.underlying42 rfl (by rw [hi]; rfl)
  rw [Array.toArray_toList] at k
  unfold execOp
  simp [ho, hx, Instr.loadAt, Instr.sureAddr, Sem.run_bind, k]
open Go in
theorem run_op_eqlRes {o : Oper} {ev : Operand → Value} {w : World} (x y : Operand) (ho : o.op = .binOp .eql 39 x y 39) {t : Bool} {a b : Int} (hx : ev x = .agg (res3 t a b)) (hy : ev y = .agg (res3 t a b)) :
    (execOp ev o).run Tryz.prog w = .ok (.value (.bool true)) w := by
  have e := run_equal_res w t a b
  have hG : Tryz.prog.eqGuardType Tryz.prog.depth 39 = false := by kernel_rfl
  unfold execOp
  simp only [ho, hx, hy, eqGuard, binOp, Sem.run_bind, Sem.run_pure, Result.andThen_ok]
  simp [hG, e, go_sem]
/-- What was seen, as the document's form of it. -/
theorem own_any (O : Nat → Int) (w : World) :
    Calls Tryz.prog 7 #[.agg (arrv 27 O)] w fun e w' => e = .returned (.agg (arrv 27 O)) ∧ Below w.heap.size w w' := by
  go_enter Tryz.func7, Tryz.ntmps7
  go_upto_region 1 with fail
  have o0 : Blk ((w.alloc (.cells (arrv 27 O) 29)).alloc (.cells #[.int .i64 0, .int .i64 0, .int .i64 0, .int .i64 0, .int .i64 0, .int .i64 0, .int .i64 0, .int .i64 0, .int .i64 0, .int .i64 0, .int .i64 0, .int .i64 0, .int .i64 0, .int .i64 0, .int .i64 0, .int .i64 0, .int .i64 0, .int .i64 0, .int .i64 0, .int .i64 0, .int .i64 0, .int .i64 0, .int .i64 0, .int .i64 0, .int .i64 0, .int .i64 0, .int .i64 0] 46)) w.heap.size 29 27 O := (Blk.new w _ 27 _).alloc _
  have r0 : Blk ((w.alloc (.cells (arrv 27 O) 29)).alloc (.cells #[.int .i64 0, .int .i64 0, .int .i64 0, .int .i64 0, .int .i64 0, .int .i64 0, .int .i64 0, .int .i64 0, .int .i64 0, .int .i64 0, .int .i64 0, .int .i64 0, .int .i64 0, .int .i64 0, .int .i64 0, .int .i64 0, .int .i64 0, .int .i64 0, .int .i64 0, .int .i64 0, .int .i64 0, .int .i64 0, .int .i64 0, .int .i64 0, .int .i64 0, .int .i64 0, .int .i64 0] 46)) (w.heap.size + 1) 46 27 (fun _ => 0) := by rw [zob]; exact Blk.new1 w _ _ _ _
  have B0 : Below w.heap.size w ((w.alloc (.cells (arrv 27 O) 29)).alloc (.cells #[.int .i64 0, .int .i64 0, .int .i64 0, .int .i64 0, .int .i64 0, .int .i64 0, .int .i64 0, .int .i64 0, .int .i64 0, .int .i64 0, .int .i64 0, .int .i64 0, .int .i64 0, .int .i64 0, .int .i64 0, .int .i64 0, .int .i64 0, .int .i64 0, .int .i64 0, .int .i64 0, .int .i64 0, .int .i64 0, .int .i64 0, .int .i64 0, .int .i64 0, .int .i64 0, .int .i64 0] 46)) := by (repeat (first | with_reducible exact Below.refl _ _ | with_reducible apply Below.drew | (with_reducible refine below_drewN ?_ _) | (with_reducible refine Below.alloc ?_ (by (try simp) <;> omega) _) | (with_reducible refine Below.setCell ?_ (by (try simp) <;> omega) _)))
  generalize (w.alloc (.cells (arrv 27 O) 29)).alloc (.cells #[.int .i64 0, .int .i64 0, .int .i64 0, .int .i64 0, .int .i64 0, .int .i64 0, .int .i64 0, .int .i64 0, .int .i64 0, .int .i64 0, .int .i64 0, .int .i64 0, .int .i64 0, .int .i64 0, .int .i64 0, .int .i64 0, .int .i64 0, .int .i64 0, .int .i64 0, .int .i64 0, .int .i64 0, .int .i64 0, .int .i64 0, .int .i64 0, .int .i64 0, .int .i64 0, .int .i64 0] 46) = W1 at *
  have o24 := o0.cell (i := 24) (by decide)
  have o25 := o0.cell (i := 25) (by decide)
  have o26 := o0.cell (i := 26) (by decide)
  refine wp_region_lit ?_
  refine wpList_val (v := ?_) rfl ?_ ?_
  rotate_left
  · (go_simp; (try (first | with_reducible rfl | (constructor <;> with_reducible rfl))))
  (try simp only [Act.put, nA, nB, nC])
  refine wpList_val (v := ?_) rfl ?_ ?_
  rotate_left
  · refine Eq.trans (run_load_sub 27 (.tmp 3) (by rfl) w.heap.size 0 24 (by rfl) o0 (by decide) _ Tryz.underlying27 rfl irow) ?_; rw [show (fun i => O (0 + i)) = O from by funext i; rw [Nat.zero_add]]; (try with_reducible rfl)
  (try simp only [Act.put, nA, nB, nC])
  refine wpList_val (v := ?_) rfl ?_ ?_
  rotate_left
  · (go_simp; (try (first | with_reducible rfl | (constructor <;> with_reducible rfl))))
  (try simp only [Act.put, nA, nB, nC])
  refine wpList_val (v := ?_) rfl ?_ ?_
  rotate_left
  · (go_simp; (try (first | with_reducible rfl | (constructor <;> with_reducible rfl))))
  (try simp only [Act.put, nA, nB, nC])
  refine wpList_val (v := ?_) rfl ?_ ?_
  rotate_left
  · (go_simp; (try (first | with_reducible rfl | (constructor <;> with_reducible rfl))))
  (try simp only [Act.put, nA, nB, nC])
  refine wpList_val (v := ?_) rfl ?_ ?_
  rotate_left
  · (go_simp; (try (first | with_reducible rfl | (constructor <;> with_reducible rfl))))
  (try simp only [Act.put, nA, nB, nC])
  refine wpList_val (v := ?_) rfl ?_ ?_
  rotate_left
  · (go_simp; (try (first | with_reducible rfl | (constructor <;> with_reducible rfl))))
  (try simp only [Act.put, nA, nB, nC])
  refine wpList_val (v := ?_) rfl ?_ ?_
  rotate_left
  · (go_simp; (try (first | with_reducible rfl | (constructor <;> with_reducible rfl))))
  (try simp only [Act.put, nA, nB, nC])
  refine wpList_val (v := ?_) rfl ?_ ?_
  rotate_left
  · refine Eq.trans (run_build_robs4 (.tmp 4) (.tmp 6) (.tmp 8) (.tmp 10) (by rfl) (by rfl) (by rfl) (by rfl) (by rfl)) ?_; rw [obF_self]
  (try simp only [Act.put, nA, nB, nC])
  refine wpList_done (w' := ?_) rfl ?_ ?_
  rotate_left
  · refine Eq.trans (run_store_row 46 (.tmp 2) (.tmp 11) (by rfl) (w.heap.size + 1) (by rfl) (by rfl) (r0) (iob16.trans rfl)) ?_; with_reducible rfl
  (try simp only [Act.put, nA, nB, nC])
  refine wpList_nil ?_
  have r1 := r0.setRow O
  have B1 : Below w.heap.size w (W1.setRow (w.heap.size + 1) (arrv 27 O)) := below_row B0 (by omega) _
  generalize W1.setRow (w.heap.size + 1) (arrv 27 O) = W2 at *
  go_wp2_with fail
  refine bodyPost_ret (results_cell_row Tryz.results7 _ _ (w.heap.size + 1) 46 (arrv 27 O) (0, 0) _ rfl r1 Tryz.underlying46 rfl (iob16.trans (by rw [arrv_size]))) rfl ⟨rfl, B1⟩
/-- The arguments' blocks. -/
structure FsB (S P O : Nat → Int) (w wr : World) : Prop where
  below : Below w.heap.size w wr
  s : Blk wr w.heap.size 23 24 S
  p : Blk wr (w.heap.size + 1) 26 300 P
  o : Blk wr (w.heap.size + 1 + 1) 29 27 O
/-- Beside, the two flags. -/
structure FsC (S P O : Nat → Int) (bc : Nat) (x y : Bool) (w wr : World) : Prop where
  b : FsB S P O w wr
  c0 : wr.cell? ⟨bc, 0, none⟩ = some (.bool x)
  f0 : wr.frozen? ⟨bc, 0, none⟩ = false
  c1 : wr.cell? ⟨bc + 1, 0, none⟩ = some (.bool y)
  f1 : wr.frozen? ⟨bc + 1, 0, none⟩ = false
  ord : w.heap.size + 1 + 1 < bc
/-- Beside, what was answered. -/
structure FsD (S P O : Nat → Int) (bc ab : Nat) (x y : Bool) (A Q : Nat → Int) (t : Bool) (u v : Int) (w wr : World) : Prop where
  c : FsC S P O bc x y w wr
  a : Blk wr ab 23 24 A
  q : Blk wr (ab + 1) 26 300 Q
  r : Res wr (ab + 1 + 1) t u v
  o2 : bc + 1 < ab
section
variable {S P O A Q : Nat → Int} {bc ab : Nat} {x y z t : Bool} {u v : Int} {w wr w' : World}
theorem FsB.down (s : FsB S P O w wr) (k : Below wr.heap.size wr w') : FsB S P O w w' := ⟨s.below.trans (k.mono s.below.size), s.s.below k, s.p.below k, s.o.below k⟩
theorem FsC.down (s : FsC S P O bc x y w wr) (b : Below wr.heap.size wr w') : FsC S P O bc x y w w' :=
  ⟨s.b.down b, (b.cell (World.block_lt_of_cell? _ _ s.c0)).trans s.c0, (b.frozen (World.block_lt_of_cell? _ _ s.c0)).trans s.f0, (b.cell (World.block_lt_of_cell? _ _ s.c1)).trans s.c1, (b.frozen (World.block_lt_of_cell? _ _ s.c1)).trans s.f1, s.ord⟩
theorem FsC.upd0 (s : FsC S P O bc x y w wr) (u : Upd ⟨bc, 0, none⟩ z wr w') : FsC S P O bc z y w w' := by
  have h := s.ord
  have hb1 := World.block_lt_of_cell? _ _ s.c1
  exact ⟨⟨own_upd s.b.below (by simp; omega) u, s.b.s.upd u (by simp; omega), s.b.p.upd u (by simp; omega), s.b.o.upd u (by simp; omega)⟩, u.cellc s.c0, (u.frozen (World.block_lt_of_cell? _ _ s.c0)).trans s.f0, (u.cell hb1 (by simp)).trans s.c1, (u.frozen hb1).trans s.f1, h⟩
theorem FsC.upd1 (s : FsC S P O bc x y w wr) (u : Upd ⟨bc + 1, 0, none⟩ z wr w') : FsC S P O bc x z w w' := by
  have h := s.ord
  have hb0 := World.block_lt_of_cell? _ _ s.c0
  exact ⟨⟨own_upd s.b.below (by simp; omega) u, s.b.s.upd u (by simp; omega), s.b.p.upd u (by simp; omega), s.b.o.upd u (by simp; omega)⟩, (u.cell hb0 (by simp)).trans s.c0, (u.frozen hb0).trans s.f0, u.cellc s.c1, (u.frozen (World.block_lt_of_cell? _ _ s.c1)).trans s.f1, h⟩
theorem cell_row_other {wr : World} {b : Nat} {p : Addr} (cs : Array Value) (h : p.block ≠ b) : (wr.setRow b cs).cell? p = wr.cell? p := by
  unfold World.cell?
  rw [Go.setRow_other wr b p.block cs h]
theorem frozen_row_other {wr : World} {b : Nat} {p : Addr} (cs : Array Value) (h : p.block ≠ b) : (wr.setRow b cs).frozen? p = wr.frozen? p := by
  unfold World.frozen?
  rw [Go.setRow_other wr b p.block cs h]
theorem FsC.row (s : FsC S P O bc x y w wr) {b : Nat} (hb : bc + 1 < b) (cs : Array Value) : FsC S P O bc x y w (wr.setRow b cs) := by
  have h := s.ord
  exact ⟨⟨below_row s.b.below (by omega) _, s.b.s.setRow_other _ (by omega), s.b.p.setRow_other _ (by omega), s.b.o.setRow_other _ (by omega)⟩, (cell_row_other _ (by show bc ≠ b; omega)).trans s.c0, (frozen_row_other _ (by show bc ≠ b; omega)).trans s.f0, (cell_row_other _ (by show bc + 1 ≠ b; omega)).trans s.c1, (frozen_row_other _ (by show bc + 1 ≠ b; omega)).trans s.f1, h⟩
theorem FsC.cell (s : FsC S P O bc x y w wr) {p : Addr} (hb : bc + 1 < p.block) (v : Value) : FsC S P O bc x y w (wr.setCell p v) := by
  have h := s.ord
  have e : ∀ b, b ≤ bc + 1 → (wr.setCell p v).heap[b]? = wr.heap[b]? := fun b hb2 => heap_setCell_other _ _ b v (by omega)
  refine ⟨⟨s.b.below.setCell (by omega) _, s.b.s.other (by omega) _, s.b.p.other (by omega) _, s.b.o.other (by omega) _⟩, ?_, ?_, ?_, ?_, h⟩
  · exact (show (wr.setCell p v).cell? ⟨bc, 0, none⟩ = wr.cell? ⟨bc, 0, none⟩ by unfold World.cell?; rw [e bc (by omega)]).trans s.c0
  · exact (show (wr.setCell p v).frozen? ⟨bc, 0, none⟩ = wr.frozen? ⟨bc, 0, none⟩ by unfold World.frozen?; rw [e bc (by omega)]).trans s.f0
  · exact (show (wr.setCell p v).cell? ⟨bc + 1, 0, none⟩ = wr.cell? ⟨bc + 1, 0, none⟩ by unfold World.cell?; rw [e (bc + 1) (by omega)]).trans s.c1
  · exact (show (wr.setCell p v).frozen? ⟨bc + 1, 0, none⟩ = wr.frozen? ⟨bc + 1, 0, none⟩ by unfold World.frozen?; rw [e (bc + 1) (by omega)]).trans s.f1
theorem fsc_fresh (s : FsB S P O w wr) : FsC S P O wr.heap.size false false w ((wr.alloc (.cells #[.bool false] 33)).alloc (.cells #[.bool false] 37)) :=
  ⟨(s.down ((Below.refl _ _).alloc (Nat.le_refl _) _)).down ((Below.refl _ _).alloc (Nat.le_refl _) _), by simp [go_sem], by simp [go_sem], by simp [go_sem], by simp [go_sem], s.o.lt⟩
theorem FsD.down (s : FsD S P O bc ab x y A Q t u v w wr) (b : Below wr.heap.size wr w') : FsD S P O bc ab x y A Q t u v w w' := ⟨s.c.down b, s.a.below b, s.q.below b, s.r.below b, s.o2⟩
theorem FsD.drew (s : FsD S P O bc ab x y A Q t u v w wr) : FsD S P O bc ab x y A Q t u v w wr.drew := s.down (Below.drew (Below.refl _ _))
theorem FsD.upd (s : FsD S P O bc ab x y A Q t u v w wr) (k : Upd ⟨bc + 1, 0, none⟩ z wr w') : FsD S P O bc ab x z A Q t u v w w' := by
  have h := s.o2
  exact ⟨s.c.upd1 k, s.a.upd k (by simp; omega), s.q.upd k (by simp; omega), s.r.upd k (by simp; omega), h⟩
theorem FsD.row (s : FsD S P O bc ab x y A Q t u v w wr) {b : Nat} (hb : ab + 1 + 1 < b) (cs : Array Value) : FsD S P O bc ab x y A Q t u v w (wr.setRow b cs) := by
  have h := s.o2
  exact ⟨s.c.row (by omega) _, s.a.setRow_other _ (by omega), s.q.setRow_other _ (by omega), s.r.row _ (by omega), h⟩
theorem FsD.cell (s : FsD S P O bc ab x y A Q t u v w wr) {p : Addr} (hb : ab + 1 + 1 < p.block) (e : Value) : FsD S P O bc ab x y A Q t u v w (wr.setCell p e) := by
  have h := s.o2
  exact ⟨s.c.cell (by omega) _, s.a.other (by omega) _, s.q.other (by omega) _, s.r.other (by omega) _, h⟩
theorem fs_st (a : FsD S P O bc ab x y A Q t u v w wr) (b : Nat) (hb : wr.heap.size = b) : Blk (wr.alloc (.cells #[.int .i64 0, .int .i64 0, .int .i64 0, .int .i64 0, .int .i64 0, .int .i64 0, .int .i64 0, .int .i64 0, .int .i64 0, .int .i64 0, .int .i64 0, .int .i64 0, .int .i64 0, .int .i64 0, .int .i64 0, .int .i64 0, .int .i64 0, .int .i64 0, .int .i64 0, .int .i64 0, .int .i64 0, .int .i64 0, .int .i64 0, .int .i64 0] 23)) b 23 24 (fun _ => 0) ∧ ab + 1 + 1 < b := by
  subst hb
  rw [zvec24]; exact ⟨Blk.new wr _ 24 _, a.r.lt⟩
theorem fs_cov (a : FsD S P O bc ab x y A Q t u v w wr) (b : Nat) (hb : wr.heap.size = b) : Blk (wr.alloc (.cells Tryz.zeroCells26 26)) b 26 300 (fun _ => 0) ∧ ab + 1 + 1 < b := by
  subst hb
  rw [zcov]; exact ⟨Blk.new wr _ _ _, a.r.lt⟩
theorem fs_res (a : FsD S P O bc ab x y A Q t u v w wr) (b : Nat) (hb : wr.heap.size = b) : RRes (wr.alloc (.cells #[.bool false, .int .i64 0, .int .i64 0] 42)) b false 0 0 ∧ ab + 1 + 1 < b := by
  subst hb
  exact ⟨RRes.new wr false 0 0, a.r.lt⟩
end
theorem rres_ne {wr : World} {b b' T n : Nat} {f : Nat → Int} {t : Bool} {y s : Int} (h : Blk wr b T n f) (h' : RRes wr b' t y s) (hT : T ≠ 42) : b ≠ b' := fun e => by
  subst e
  unfold Blk at h
  unfold RRes at h'
  rw [h] at h'
  injection h' with h'
  injection h' with _ h2 _
  exact hT h2
set_option maxHeartbeats 20000000 in
theorem says18_any (S P O : Nat → Int) (w : World) (hO : -9223372036854775808 ≤ O 26 ∧ O 26 ≤ 9223372036854775807) :
    Calls Tryz.prog 3 #[.agg (arrv 24 S), .agg (arrv 300 P), .agg (arrv 27 O)] w fun e w' => e = .returned (.bool true) ∧ Below w.heap.size w w' := by
  have HO := Lib.hid hO
  clear hO
  go_enter Tryz.func3, Tryz.ntmps3
  obtain ⟨W0, hW0⟩ : ∃ x, ((w.alloc (.cells (arrv 24 S) 23)).alloc (.cells (arrv 300 P) 26)).alloc (.cells (arrv 27 O) 29) = x := ⟨_, rfl⟩
  have S0 := Lib.hid (show FsB S P O w W0 by rw [← hW0]; exact ⟨by (repeat (first | with_reducible exact Below.refl _ _ | with_reducible apply Below.drew | (with_reducible refine below_drewN ?_ _) | (with_reducible refine Below.alloc ?_ (by (try simp) <;> omega) _) | (with_reducible refine Below.setCell ?_ (by (try simp) <;> omega) _))), ((Blk.new w _ _ _).alloc _).alloc _, (Blk.new1 w _ _ _ _).alloc _, blk_new2 w _ _ _ _ _⟩)
  go_upto_region 3 with (go_at_call 4; (refine (awake18_any _).mono ?_); rintro e w1 ⟨rfl, hb1⟩; have S1 := Lib.hid (S0.out.down hb1); clear hb1)
  clear S0 hW0
  have C5 := Lib.hid (fsc_fresh S1.out)
  clear S1
  go_upto_region 5 with fail
  obtain ⟨bc, hbc⟩ : ∃ x, w1.heap.size = x := ⟨_, rfl⟩
  (try rw [hbc] at C5)
  rw [hbc]
  generalize (w1.alloc (.cells #[.bool false] 33)).alloc (.cells #[.bool false] 37) = W5 at *
  clear hbc
  have ON := fuone_any ⟨bc, 0, none⟩ false S P O W5 C5.out.c0 C5.out.f0 HO.out
  have RN := Lib.hid (fun (x : World) (k1 : x.cell? ⟨bc + 1, 0, none⟩ = some (.bool false)) (k2 : x.frozen? ⟨bc + 1, 0, none⟩ = false) => rone16_any ⟨bc + 1, 0, none⟩ false S P O x k1 k2 HO.out)
  have WN := Lib.hid (fun (x : World) => own_any O x)
  obtain ⟨A, hA⟩ : ∃ x, foSt S P O = x := ⟨_, rfl⟩
  obtain ⟨Q, hQ⟩ : ∃ x, foPt P O = x := ⟨_, rfl⟩
  obtain ⟨T, hT⟩ : ∃ x, foL P O = x := ⟨_, rfl⟩
  obtain ⟨Y, hY⟩ : ∃ x, foY O = x := ⟨_, rfl⟩
  obtain ⟨X, hX⟩ : ∃ x, foS P O = x := ⟨_, rfl⟩
  obtain ⟨FL, hFL⟩ : ∃ x, foFl S P O = x := ⟨_, rfl⟩
  rw [hA, hQ, hT, hY, hX, hFL, Bool.false_or] at ON
  simp only [hA, hQ, hT, hY, hX, hFL, Bool.false_or] at RN
  have ON := Lib.hid ON
  clear hA hQ hT hY hX hFL
  have s5 := C5.out.b.s
  have p5 := C5.out.b.p
  have o5 := C5.out.b.o
  refine wp_region_lit ?_
  refine wpList_val (v := ?_) rfl ?_ ?_
  rotate_left
  · (go_simp; (try (first | with_reducible rfl | (constructor <;> with_reducible rfl))))
  (try simp only [Act.put, nA, nB, nC])
  refine wpList_val (v := ?_) rfl ?_ ?_
  rotate_left
  · refine Eq.trans (run_load_row 23 (.tmp 3) (by rfl) (w.heap.size) (by rfl) _ _ _ _ (s5) Tryz.underlying23 rfl (ist.trans (by rw [arrv_size]))) ?_; with_reducible rfl
  (try simp only [Act.put, nA, nB, nC])
  refine wpList_val (v := ?_) rfl ?_ ?_
  rotate_left
  · refine Eq.trans (run_load_row 26 (.tmp 4) (by rfl) (w.heap.size + 1) (by rfl) _ _ _ _ (p5) Tryz.underlying26 rfl (icov.trans (by rw [arrv_size]))) ?_; with_reducible rfl
  (try simp only [Act.put, nA, nB, nC])
  refine wpList_val (v := ?_) rfl ?_ ?_
  rotate_left
  · refine Eq.trans (run_load_row 29 (.tmp 5) (by rfl) (w.heap.size + 1 + 1) (by rfl) _ _ _ _ (o5) Tryz.underlying29 rfl (iob.trans (by rw [arrv_size]))) ?_; with_reducible rfl
  (try simp only [Act.put, nA, nB, nC])
  refine wpList_step (fun K hK => ?_)
  go_simp
  (refine ON.out.mono ?_); rintro e w8 ⟨rfl, hu8⟩; have C8 := Lib.hid (C5.out.upd0 hu8); (have R8 := Lib.hid (aw_t8 w8); have R9 := Lib.hid (aw_q8 w8 (A)); have RA := Lib.hid (aw_r8 w8 (A) (Q)); (simp only [res3])); clear hu8
  (try dsimp only)
  (try simp only [Act.put, nA, nB, nC])
  refine hK _ _ ?_
  clear hK K
  refine wpList_val (v := ?_) rfl ?_ ?_
  rotate_left
  · (go_simp; (try (first | with_reducible rfl | (constructor <;> with_reducible rfl))))
  (try simp only [Act.put, nA, nB, nC])
  refine wpList_val (v := ?_) rfl ?_ ?_
  rotate_left
  · (go_simp; (try (first | with_reducible rfl | (constructor <;> with_reducible rfl))))
  (try simp only [Act.put, nA, nB, nC])
  refine wpList_val (v := ?_) rfl ?_ ?_
  rotate_left
  · (go_simp; (try (first | with_reducible rfl | (constructor <;> with_reducible rfl))))
  (try simp only [Act.put, nA, nB, nC])
  refine wpList_val (v := ?_) rfl ?_ ?_
  rotate_left
  · (go_simp; (try (first | with_reducible rfl | (constructor <;> with_reducible rfl))))
  (try simp only [Act.put, nA, nB, nC])
  refine wpList_act (v := ?_) (w' := ?_) rfl ?_ ?_
  rotate_left 2
  · (go_simp; (try (first | with_reducible rfl | (constructor <;> with_reducible rfl))))
  (try simp only [Act.put, nA, nB, nC])
  refine wpList_act (v := ?_) (w' := ?_) rfl ?_ ?_
  rotate_left 2
  · (go_simp; (try (first | with_reducible rfl | (constructor <;> with_reducible rfl))))
  (try simp only [Act.put, nA, nB, nC])
  refine wpList_act (v := ?_) (w' := ?_) rfl ?_ ?_
  rotate_left 2
  · (go_simp; (try (first | with_reducible rfl | (constructor <;> with_reducible rfl))))
  (try simp only [Act.put, nA, nB, nC])
  refine wpList_done (w' := ?_) rfl ?_ ?_
  rotate_left
  · refine Eq.trans (run_store_row 23 (.tmp 9) (.tmp 27) (by rfl) (w8.heap.size) (by rfl) (by rfl) (R8.out) (ist.trans rfl)) ?_; with_reducible rfl
  (try simp only [Act.put, nA, nB, nC])
  refine wpList_done (w' := ?_) rfl ?_ ?_
  rotate_left
  · refine Eq.trans (run_store_row 26 (.tmp 10) (.tmp 28) (by rfl) (w8.heap.size + 1) (by rfl) (by rfl) (R9.out) (icov.trans rfl)) ?_; with_reducible rfl
  (try simp only [Act.put, nA, nB, nC])
  refine wpList_done (w' := ?_) rfl ?_ ?_
  rotate_left
  · (obtain ⟨⟨v0, v1, v2⟩, y0, y1, y2⟩ := RA.out.c; go_simp; (try with_reducible rfl))
  (try simp only [Act.put, nA, nB, nC])
  refine wpList_nil ?_
  obtain ⟨w9, hw9⟩ : ∃ x, x = ((((((((w8.alloc (.cells #[.int .i64 0, .int .i64 0, .int .i64 0, .int .i64 0, .int .i64 0, .int .i64 0, .int .i64 0, .int .i64 0, .int .i64 0, .int .i64 0, .int .i64 0, .int .i64 0, .int .i64 0, .int .i64 0, .int .i64 0, .int .i64 0, .int .i64 0, .int .i64 0, .int .i64 0, .int .i64 0, .int .i64 0, .int .i64 0, .int .i64 0, .int .i64 0] 23)).alloc (.cells Tryz.zeroCells26 26)).alloc (.cells #[.bool false, .int .i64 0, .int .i64 0] 39)).setRow w8.heap.size (arrv 24 (A))).setRow (w8.heap.size + 1) (arrv 300 (Q))).setCell ⟨w8.heap.size + 1 + 1, 0, none⟩ (.bool T)).setCell ⟨w8.heap.size + 1 + 1, 1, none⟩ (.int .i64 Y)).setCell ⟨w8.heap.size + 1 + 1, 2, none⟩ (.int .i64 X)) := ⟨_, rfl⟩; rw [← hw9]; obtain ⟨M0, M1, M2, MB⟩ := one_made _ _ _ _ _ hw9; clear hw9 R8 R9 RA
  have hab : bc + 1 < w8.heap.size := World.block_lt_of_cell? _ _ C8.out.c1
  have C9 := Lib.hid (C8.out.down MB)
  obtain ⟨ab, hab2⟩ : ∃ x, w8.heap.size = x := ⟨_, rfl⟩
  rw [hab2] at M0 M1 M2 hab ⊢
  have HS := Lib.hid (FsD.drew ⟨C9.out, M0, M1, M2, hab⟩)
  clear C5 s5 p5 o5 ON C8 M0 M1 M2 MB hab hab2 C9
  go_upto_region 6 with fail
  go_cut [12, 13, 14] from 30 to 40 (fun s12 s13 s14 wx => ∃ ta tq tr, s12 = .pointer (some ⟨ta, 0, none⟩) ∧ s13 = .pointer (some ⟨tq, 0, none⟩) ∧ s14 = .pointer (some ⟨tr, 0, none⟩) ∧ Hid (FsD S P O bc ab FL FL A Q T Y X w wx ∧ Blk wx ta 23 24 A ∧ Blk wx tq 26 300 Q ∧ RRes wx tr T Y X))
  case first =>
    refine wp_region_M (fun w' => Blk w' w.heap.size 23 24 S ∧ Blk w' (w.heap.size + 1) 26 300 P ∧ Blk w' (w.heap.size + 1 + 1) 29 27 O) 15 (by kernel_rfl) ?_ (fun hHeld => ?_)
    · exact ⟨HS.out.c.b.s, HS.out.c.b.p, HS.out.c.b.o⟩
    obtain ⟨wx, hwx⟩ : ∃ x, w9.drew = x := ⟨_, rfl⟩; rw [hwx] at HS hHeld ⊢; clear hwx
    clear hHeld
    revert HS
    revert wx
    refine share (T := ?_) (fun SH18 => ?_) ?sp18
    rotate_left
    refine share (T := ?_) (fun SH17 => ?_) ?sp17
    rotate_left
    refine share (T := ?_) (fun SH16 => ?_) ?sp16
    rotate_left
    refine share (T := ?_) (fun SH15 => ?_) ?sp15
    rotate_left
    refine share (T := ?_) (fun SH14 => ?_) ?sp14
    rotate_left
    refine share (T := ?_) (fun SH13 => ?_) ?sp13
    rotate_left
    refine share (T := ?_) (fun SH12 => ?_) ?sp12
    rotate_left
    refine share (T := ?_) (fun SH11 => ?_) ?sp11
    rotate_left
    refine share (T := ?_) (fun SH10 => ?_) ?sp10
    rotate_left
    refine share (T := ?_) (fun SH9 => ?_) ?sp9
    rotate_left
    refine share (T := ?_) (fun SH8 => ?_) ?sp8
    rotate_left
    refine share (T := ?_) (fun SH7 => ?_) ?sp7
    rotate_left
    refine share (T := ?_) (fun SH6 => ?_) ?sp6
    rotate_left
    refine share (T := ?_) (fun SH5 => ?_) ?sp5
    rotate_left
    refine share (T := ?_) (fun SH4 => ?_) ?sp4
    rotate_left
    refine share (T := ?_) (fun SH3 => ?_) ?sp3
    rotate_left
    refine share (T := ?_) (fun SH2 => ?_) ?sp2
    rotate_left
    refine share (T := ?_) (fun SH1 => ?_) ?sp1
    rotate_left
    · intro wx  HS
      have hHeld : (((fun w' => Blk w' w.heap.size 23 24 S ∧ Blk w' (w.heap.size + 1) 26 300 P ∧ Blk w' (w.heap.size + 1 + 1) 29 27 O)) wx) := by exact ⟨HS.out.c.b.s, HS.out.c.b.p, HS.out.c.b.o⟩
      refine wpAnyM_take 0 (v := ?_) rfl (by kernel_rfl) (fun _ _ _ h => h) (Or.inl ⟨by rfl, ?_⟩) (by assumption) ?_
      rotate_left
      · (intro wz hSw; (try dsimp only at hSw); go_simp; (try with_reducible rfl))
      (try simp only [Act.put, nA, nB, nC])
      refine wpAnyM_take 1 (v := ?_) rfl (by kernel_rfl) (fun _ _ _ h => h) (Or.inl ⟨by rfl, ?_⟩) (by assumption) ?_
      rotate_left
      · (intro wz hSw; refine Eq.trans (run_load_row 23 (.tmp 3) (by rfl) (w.heap.size) (by rfl) _ _ _ _ (hSw.1) Tryz.underlying23 rfl (ist.trans (by rw [arrv_size]))) ?_; with_reducible rfl)
      (try simp only [Act.put, nA, nB, nC])
      refine wpAnyM_take 2 (v := ?_) rfl (by kernel_rfl) (fun _ _ _ h => h) (Or.inl ⟨by rfl, ?_⟩) (by assumption) ?_
      rotate_left
      · (intro wz hSw; refine Eq.trans (run_load_row 26 (.tmp 4) (by rfl) (w.heap.size + 1) (by rfl) _ _ _ _ (hSw.2.1) Tryz.underlying26 rfl (icov.trans (by rw [arrv_size]))) ?_; with_reducible rfl)
      (try simp only [Act.put, nA, nB, nC])
      refine wpAnyM_take 3 (v := ?_) rfl (by kernel_rfl) (fun _ _ _ h => h) (Or.inl ⟨by rfl, ?_⟩) (by assumption) ?_
      rotate_left
      · (intro wz hSw; refine Eq.trans (run_load_row 29 (.tmp 5) (by rfl) (w.heap.size + 1 + 1) (by rfl) _ _ _ _ (hSw.2.2) Tryz.underlying29 rfl (iob.trans (by rw [arrv_size]))) ?_; with_reducible rfl)
      (try simp only [Act.put, nA, nB, nC])
      clear hHeld
      refine wpAnyM_fourS 4 10 11 12 rfl rfl rfl rfl (by kernel_rfl) (fun K hK => ?_) (fun K hK => ?_) (fun K hK => ?_) (fun K hK => ?_)
      · go_simp
        (refine (WN.out _).mono ?_); rintro e wn ⟨rfl, hb6⟩; have HS2 := Lib.hid (HS.out.down hb6); clear HS; have HS := HS2; clear HS2; (try (have HA2 := Lib.hid (And.intro (HA.out.1.below hb6) HA.out.2); clear HA; have HA := HA2; clear HA2)); (try (have HR2 := Lib.hid (And.intro (HR.out.1.below hb6) HR.out.2); clear HR; have HR := HR2; clear HR2)); (try (have HZ2 := Lib.hid (And.intro (HZ.out.1.below hb6) HZ.out.2); clear HZ; have HZ := HZ2; clear HZ2)); clear hb6
        (try dsimp only)
        (try simp only [Act.put, nA, nB, nC])
        refine hK.out _ _ ?_ (fun hHeld => ?_)
        · exact ⟨HS.out.c.b.s, HS.out.c.b.p, HS.out.c.b.o⟩
        clear hK K
        (try simp only [Act.put, nA, nB, nC])
        clear hHeld
        revert HS
        revert wn
        intro wx  HS
        refine wpAnyM_fourS 5 10 11 12 rfl rfl rfl rfl (by kernel_rfl) (fun K hK => ?_) (fun K hK => ?_) (fun K hK => ?_) (fun K hK => ?_)
        · go_simp
          (refine (RN.out _ HS.out.c.c1 HS.out.c.f1).mono ?_); rintro e wn ⟨rfl, hu7⟩; (try (have HA2 := Lib.hid (And.intro (HA.out.1.upd hu7 (by have := HA.out.2; have := HS.out.o2; simp; omega)) HA.out.2); clear HA; have HA := HA2; clear HA2)); (try (have HR2 := Lib.hid (And.intro (HR.out.1.upd hu7 (by have := HR.out.2; have := HS.out.o2; simp; omega)) HR.out.2); clear HR; have HR := HR2; clear HR2)); (try (have HZ2 := Lib.hid (And.intro (HZ.out.1.upd hu7 (by have := HZ.out.2; have := HS.out.o2; simp; omega)) HZ.out.2); clear HZ; have HZ := HZ2; clear HZ2)); have HS2 := Lib.hid (HS.out.upd hu7); clear HS; have HS := HS2; clear HS2 hu7; (simp only [res3])
          (try dsimp only)
          (try simp only [Act.put, nA, nB, nC])
          refine hK.out _ _ ?_ (fun hHeld => ?_)
          · exact ⟨HS.out.c.b.s, HS.out.c.b.p, HS.out.c.b.o⟩
          clear hK K
          (try simp only [Act.put, nA, nB, nC])
          refine wpAnyM_take 6 (v := ?_) rfl (by kernel_rfl) (fun _ _ _ h => h) (Or.inl ⟨by rfl, ?_⟩) (by assumption) ?_
          rotate_left
          · (intro wz hSw; (try dsimp only at hSw); go_simp; (try with_reducible rfl))
          (try simp only [Act.put, nA, nB, nC])
          refine wpAnyM_take 7 (v := ?_) rfl (by kernel_rfl) (fun _ _ _ h => h) (Or.inl ⟨by rfl, ?_⟩) (by assumption) ?_
          rotate_left
          · (intro wz hSw; (try dsimp only at hSw); go_simp; (try with_reducible rfl))
          (try simp only [Act.put, nA, nB, nC])
          refine wpAnyM_take 8 (v := ?_) rfl (by kernel_rfl) (fun _ _ _ h => h) (Or.inl ⟨by rfl, ?_⟩) (by assumption) ?_
          rotate_left
          · (intro wz hSw; (try dsimp only at hSw); go_simp; (try with_reducible rfl))
          (try simp only [Act.put, nA, nB, nC])
          refine wpAnyM_take 9 (v := ?_) rfl (by kernel_rfl) (fun _ _ _ h => h) (Or.inl ⟨by rfl, ?_⟩) (by assumption) ?_
          rotate_left
          · (intro wz hSw; (try dsimp only at hSw); go_simp; (try with_reducible rfl))
          (try simp only [Act.put, nA, nB, nC])
          clear hHeld
          revert HS
          revert wn
          intro wx  HS
          refine wpAnyM_threeS 10 11 12 rfl rfl rfl (by kernel_rfl) (fun K hK => ?_) (fun K hK => ?_) (fun K hK => ?_)
          · go_simp; obtain ⟨b10, hb⟩ : ∃ x, wx.heap.size = x := ⟨_, rfl⟩; have HA := Lib.hid (fs_st HS.out b10 hb); have hBB := (Below.refl wx.heap.size wx).alloc (Nat.le_refl _) (.cells #[.int .i64 0, .int .i64 0, .int .i64 0, .int .i64 0, .int .i64 0, .int .i64 0, .int .i64 0, .int .i64 0, .int .i64 0, .int .i64 0, .int .i64 0, .int .i64 0, .int .i64 0, .int .i64 0, .int .i64 0, .int .i64 0, .int .i64 0, .int .i64 0, .int .i64 0, .int .i64 0, .int .i64 0, .int .i64 0, .int .i64 0, .int .i64 0] 23); (try (have HR2 := Lib.hid (And.intro (HR.out.1.below hBB) HR.out.2); clear HR; have HR := HR2; clear HR2)); (try (have HZ2 := Lib.hid (And.intro (HZ.out.1.below hBB) HZ.out.2); clear HZ; have HZ := HZ2; clear HZ2)); have HS2 := Lib.hid (HS.out.down hBB); clear HS; have HS := HS2; clear HS2 hBB; (rw [hb]); clear hb; generalize wx.alloc (.cells #[.int .i64 0, .int .i64 0, .int .i64 0, .int .i64 0, .int .i64 0, .int .i64 0, .int .i64 0, .int .i64 0, .int .i64 0, .int .i64 0, .int .i64 0, .int .i64 0, .int .i64 0, .int .i64 0, .int .i64 0, .int .i64 0, .int .i64 0, .int .i64 0, .int .i64 0, .int .i64 0, .int .i64 0, .int .i64 0, .int .i64 0, .int .i64 0] 23) = wn at *
            refine hK.out _ _ ?_ (fun hHeld => ?_)
            · exact ⟨HS.out.c.b.s, HS.out.c.b.p, HS.out.c.b.o⟩
            clear hK K
            (try simp only [Act.put, nA, nB, nC])
            clear hHeld
            revert HA
            revert HS
            revert b10
            revert wn
            exact SH7.out
          · go_simp; obtain ⟨b11, hb⟩ : ∃ x, wx.heap.size = x := ⟨_, rfl⟩; have HR := Lib.hid (fs_cov HS.out b11 hb); have hBB := (Below.refl wx.heap.size wx).alloc (Nat.le_refl _) (.cells Tryz.zeroCells26 26); (try (have HA2 := Lib.hid (And.intro (HA.out.1.below hBB) HA.out.2); clear HA; have HA := HA2; clear HA2)); (try (have HZ2 := Lib.hid (And.intro (HZ.out.1.below hBB) HZ.out.2); clear HZ; have HZ := HZ2; clear HZ2)); have HS2 := Lib.hid (HS.out.down hBB); clear HS; have HS := HS2; clear HS2 hBB; (rw [hb]); clear hb; generalize wx.alloc (.cells Tryz.zeroCells26 26) = wn at *
            refine hK.out _ _ ?_ (fun hHeld => ?_)
            · exact ⟨HS.out.c.b.s, HS.out.c.b.p, HS.out.c.b.o⟩
            clear hK K
            (try simp only [Act.put, nA, nB, nC])
            clear hHeld
            revert HR
            revert HS
            revert b11
            revert wn
            exact SH8.out
          · go_simp; obtain ⟨b12, hb⟩ : ∃ x, wx.heap.size = x := ⟨_, rfl⟩; have HZ := Lib.hid (fs_res HS.out b12 hb); have hBB := (Below.refl wx.heap.size wx).alloc (Nat.le_refl _) (.cells #[.bool false, .int .i64 0, .int .i64 0] 42); (try (have HA2 := Lib.hid (And.intro (HA.out.1.below hBB) HA.out.2); clear HA; have HA := HA2; clear HA2)); (try (have HR2 := Lib.hid (And.intro (HR.out.1.below hBB) HR.out.2); clear HR; have HR := HR2; clear HR2)); have HS2 := Lib.hid (HS.out.down hBB); clear HS; have HS := HS2; clear HS2 hBB; (rw [hb]); clear hb; generalize wx.alloc (.cells #[.bool false, .int .i64 0, .int .i64 0] 42) = wn at *
            refine hK.out _ _ ?_ (fun hHeld => ?_)
            · exact ⟨HS.out.c.b.s, HS.out.c.b.p, HS.out.c.b.o⟩
            clear hK K
            (try simp only [Act.put, nA, nB, nC])
            clear hHeld
            revert HZ
            revert HS
            revert b12
            revert wn
            exact SH9.out
        · go_simp; obtain ⟨b10, hb⟩ : ∃ x, wx.heap.size = x := ⟨_, rfl⟩; have HA := Lib.hid (fs_st HS.out b10 hb); have hBB := (Below.refl wx.heap.size wx).alloc (Nat.le_refl _) (.cells #[.int .i64 0, .int .i64 0, .int .i64 0, .int .i64 0, .int .i64 0, .int .i64 0, .int .i64 0, .int .i64 0, .int .i64 0, .int .i64 0, .int .i64 0, .int .i64 0, .int .i64 0, .int .i64 0, .int .i64 0, .int .i64 0, .int .i64 0, .int .i64 0, .int .i64 0, .int .i64 0, .int .i64 0, .int .i64 0, .int .i64 0, .int .i64 0] 23); (try (have HR2 := Lib.hid (And.intro (HR.out.1.below hBB) HR.out.2); clear HR; have HR := HR2; clear HR2)); (try (have HZ2 := Lib.hid (And.intro (HZ.out.1.below hBB) HZ.out.2); clear HZ; have HZ := HZ2; clear HZ2)); have HS2 := Lib.hid (HS.out.down hBB); clear HS; have HS := HS2; clear HS2 hBB; (rw [hb]); clear hb; generalize wx.alloc (.cells #[.int .i64 0, .int .i64 0, .int .i64 0, .int .i64 0, .int .i64 0, .int .i64 0, .int .i64 0, .int .i64 0, .int .i64 0, .int .i64 0, .int .i64 0, .int .i64 0, .int .i64 0, .int .i64 0, .int .i64 0, .int .i64 0, .int .i64 0, .int .i64 0, .int .i64 0, .int .i64 0, .int .i64 0, .int .i64 0, .int .i64 0, .int .i64 0] 23) = wn at *
          refine hK.out _ _ ?_ (fun hHeld => ?_)
          · exact ⟨HS.out.c.b.s, HS.out.c.b.p, HS.out.c.b.o⟩
          clear hK K
          (try simp only [Act.put, nA, nB, nC])
          clear hHeld
          revert HA
          revert HS
          revert b10
          revert wn
          exact SH1.out
        · go_simp; obtain ⟨b11, hb⟩ : ∃ x, wx.heap.size = x := ⟨_, rfl⟩; have HR := Lib.hid (fs_cov HS.out b11 hb); have hBB := (Below.refl wx.heap.size wx).alloc (Nat.le_refl _) (.cells Tryz.zeroCells26 26); (try (have HA2 := Lib.hid (And.intro (HA.out.1.below hBB) HA.out.2); clear HA; have HA := HA2; clear HA2)); (try (have HZ2 := Lib.hid (And.intro (HZ.out.1.below hBB) HZ.out.2); clear HZ; have HZ := HZ2; clear HZ2)); have HS2 := Lib.hid (HS.out.down hBB); clear HS; have HS := HS2; clear HS2 hBB; (rw [hb]); clear hb; generalize wx.alloc (.cells Tryz.zeroCells26 26) = wn at *
          refine hK.out _ _ ?_ (fun hHeld => ?_)
          · exact ⟨HS.out.c.b.s, HS.out.c.b.p, HS.out.c.b.o⟩
          clear hK K
          (try simp only [Act.put, nA, nB, nC])
          clear hHeld
          revert HR
          revert HS
          revert b11
          revert wn
          exact SH2.out
        · go_simp; obtain ⟨b12, hb⟩ : ∃ x, wx.heap.size = x := ⟨_, rfl⟩; have HZ := Lib.hid (fs_res HS.out b12 hb); have hBB := (Below.refl wx.heap.size wx).alloc (Nat.le_refl _) (.cells #[.bool false, .int .i64 0, .int .i64 0] 42); (try (have HA2 := Lib.hid (And.intro (HA.out.1.below hBB) HA.out.2); clear HA; have HA := HA2; clear HA2)); (try (have HR2 := Lib.hid (And.intro (HR.out.1.below hBB) HR.out.2); clear HR; have HR := HR2; clear HR2)); have HS2 := Lib.hid (HS.out.down hBB); clear HS; have HS := HS2; clear HS2 hBB; (rw [hb]); clear hb; generalize wx.alloc (.cells #[.bool false, .int .i64 0, .int .i64 0] 42) = wn at *
          refine hK.out _ _ ?_ (fun hHeld => ?_)
          · exact ⟨HS.out.c.b.s, HS.out.c.b.p, HS.out.c.b.o⟩
          clear hK K
          (try simp only [Act.put, nA, nB, nC])
          clear hHeld
          revert HZ
          revert HS
          revert b12
          revert wn
          exact SH3.out
      · go_simp; obtain ⟨b10, hb⟩ : ∃ x, wx.heap.size = x := ⟨_, rfl⟩; have HA := Lib.hid (fs_st HS.out b10 hb); have hBB := (Below.refl wx.heap.size wx).alloc (Nat.le_refl _) (.cells #[.int .i64 0, .int .i64 0, .int .i64 0, .int .i64 0, .int .i64 0, .int .i64 0, .int .i64 0, .int .i64 0, .int .i64 0, .int .i64 0, .int .i64 0, .int .i64 0, .int .i64 0, .int .i64 0, .int .i64 0, .int .i64 0, .int .i64 0, .int .i64 0, .int .i64 0, .int .i64 0, .int .i64 0, .int .i64 0, .int .i64 0, .int .i64 0] 23); (try (have HR2 := Lib.hid (And.intro (HR.out.1.below hBB) HR.out.2); clear HR; have HR := HR2; clear HR2)); (try (have HZ2 := Lib.hid (And.intro (HZ.out.1.below hBB) HZ.out.2); clear HZ; have HZ := HZ2; clear HZ2)); have HS2 := Lib.hid (HS.out.down hBB); clear HS; have HS := HS2; clear HS2 hBB; (rw [hb]); clear hb; generalize wx.alloc (.cells #[.int .i64 0, .int .i64 0, .int .i64 0, .int .i64 0, .int .i64 0, .int .i64 0, .int .i64 0, .int .i64 0, .int .i64 0, .int .i64 0, .int .i64 0, .int .i64 0, .int .i64 0, .int .i64 0, .int .i64 0, .int .i64 0, .int .i64 0, .int .i64 0, .int .i64 0, .int .i64 0, .int .i64 0, .int .i64 0, .int .i64 0, .int .i64 0] 23) = wn at *
        refine hK.out _ _ ?_ (fun hHeld => ?_)
        · exact ⟨HS.out.c.b.s, HS.out.c.b.p, HS.out.c.b.o⟩
        clear hK K
        (try simp only [Act.put, nA, nB, nC])
        clear hHeld
        revert HA
        revert HS
        revert b10
        revert wn
        intro wx b10 HS HA
        refine wpAnyM_threeS 4 11 12 rfl rfl rfl (by kernel_rfl) (fun K hK => ?_) (fun K hK => ?_) (fun K hK => ?_)
        · go_simp
          (refine (WN.out _).mono ?_); rintro e wn ⟨rfl, hb6⟩; have HS2 := Lib.hid (HS.out.down hb6); clear HS; have HS := HS2; clear HS2; (try (have HA2 := Lib.hid (And.intro (HA.out.1.below hb6) HA.out.2); clear HA; have HA := HA2; clear HA2)); (try (have HR2 := Lib.hid (And.intro (HR.out.1.below hb6) HR.out.2); clear HR; have HR := HR2; clear HR2)); (try (have HZ2 := Lib.hid (And.intro (HZ.out.1.below hb6) HZ.out.2); clear HZ; have HZ := HZ2; clear HZ2)); clear hb6
          (try dsimp only)
          (try simp only [Act.put, nA, nB, nC])
          refine hK.out _ _ ?_ (fun hHeld => ?_)
          · exact ⟨HS.out.c.b.s, HS.out.c.b.p, HS.out.c.b.o⟩
          clear hK K
          (try simp only [Act.put, nA, nB, nC])
          exact SH1.out _ _ HS HA
        · go_simp; obtain ⟨b11, hb⟩ : ∃ x, wx.heap.size = x := ⟨_, rfl⟩; have HR := Lib.hid (fs_cov HS.out b11 hb); have hBB := (Below.refl wx.heap.size wx).alloc (Nat.le_refl _) (.cells Tryz.zeroCells26 26); (try (have HA2 := Lib.hid (And.intro (HA.out.1.below hBB) HA.out.2); clear HA; have HA := HA2; clear HA2)); (try (have HZ2 := Lib.hid (And.intro (HZ.out.1.below hBB) HZ.out.2); clear HZ; have HZ := HZ2; clear HZ2)); have HS2 := Lib.hid (HS.out.down hBB); clear HS; have HS := HS2; clear HS2 hBB; (rw [hb]); clear hb; generalize wx.alloc (.cells Tryz.zeroCells26 26) = wn at *
          refine hK.out _ _ ?_ (fun hHeld => ?_)
          · exact ⟨HS.out.c.b.s, HS.out.c.b.p, HS.out.c.b.o⟩
          clear hK K
          (try simp only [Act.put, nA, nB, nC])
          clear hHeld
          revert HR
          revert HA
          revert HS
          revert b11
          revert b10
          revert wn
          exact SH4.out
        · go_simp; obtain ⟨b12, hb⟩ : ∃ x, wx.heap.size = x := ⟨_, rfl⟩; have HZ := Lib.hid (fs_res HS.out b12 hb); have hBB := (Below.refl wx.heap.size wx).alloc (Nat.le_refl _) (.cells #[.bool false, .int .i64 0, .int .i64 0] 42); (try (have HA2 := Lib.hid (And.intro (HA.out.1.below hBB) HA.out.2); clear HA; have HA := HA2; clear HA2)); (try (have HR2 := Lib.hid (And.intro (HR.out.1.below hBB) HR.out.2); clear HR; have HR := HR2; clear HR2)); have HS2 := Lib.hid (HS.out.down hBB); clear HS; have HS := HS2; clear HS2 hBB; (rw [hb]); clear hb; generalize wx.alloc (.cells #[.bool false, .int .i64 0, .int .i64 0] 42) = wn at *
          refine hK.out _ _ ?_ (fun hHeld => ?_)
          · exact ⟨HS.out.c.b.s, HS.out.c.b.p, HS.out.c.b.o⟩
          clear hK K
          (try simp only [Act.put, nA, nB, nC])
          clear hHeld
          revert HZ
          revert HA
          revert HS
          revert b12
          revert b10
          revert wn
          exact SH5.out
      · go_simp; obtain ⟨b11, hb⟩ : ∃ x, wx.heap.size = x := ⟨_, rfl⟩; have HR := Lib.hid (fs_cov HS.out b11 hb); have hBB := (Below.refl wx.heap.size wx).alloc (Nat.le_refl _) (.cells Tryz.zeroCells26 26); (try (have HA2 := Lib.hid (And.intro (HA.out.1.below hBB) HA.out.2); clear HA; have HA := HA2; clear HA2)); (try (have HZ2 := Lib.hid (And.intro (HZ.out.1.below hBB) HZ.out.2); clear HZ; have HZ := HZ2; clear HZ2)); have HS2 := Lib.hid (HS.out.down hBB); clear HS; have HS := HS2; clear HS2 hBB; (rw [hb]); clear hb; generalize wx.alloc (.cells Tryz.zeroCells26 26) = wn at *
        refine hK.out _ _ ?_ (fun hHeld => ?_)
        · exact ⟨HS.out.c.b.s, HS.out.c.b.p, HS.out.c.b.o⟩
        clear hK K
        (try simp only [Act.put, nA, nB, nC])
        clear hHeld
        revert HR
        revert HS
        revert b11
        revert wn
        intro wx b11 HS HR
        refine wpAnyM_threeS 4 10 12 rfl rfl rfl (by kernel_rfl) (fun K hK => ?_) (fun K hK => ?_) (fun K hK => ?_)
        · go_simp
          (refine (WN.out _).mono ?_); rintro e wn ⟨rfl, hb6⟩; have HS2 := Lib.hid (HS.out.down hb6); clear HS; have HS := HS2; clear HS2; (try (have HA2 := Lib.hid (And.intro (HA.out.1.below hb6) HA.out.2); clear HA; have HA := HA2; clear HA2)); (try (have HR2 := Lib.hid (And.intro (HR.out.1.below hb6) HR.out.2); clear HR; have HR := HR2; clear HR2)); (try (have HZ2 := Lib.hid (And.intro (HZ.out.1.below hb6) HZ.out.2); clear HZ; have HZ := HZ2; clear HZ2)); clear hb6
          (try dsimp only)
          (try simp only [Act.put, nA, nB, nC])
          refine hK.out _ _ ?_ (fun hHeld => ?_)
          · exact ⟨HS.out.c.b.s, HS.out.c.b.p, HS.out.c.b.o⟩
          clear hK K
          (try simp only [Act.put, nA, nB, nC])
          exact SH2.out _ _ HS HR
        · go_simp; obtain ⟨b10, hb⟩ : ∃ x, wx.heap.size = x := ⟨_, rfl⟩; have HA := Lib.hid (fs_st HS.out b10 hb); have hBB := (Below.refl wx.heap.size wx).alloc (Nat.le_refl _) (.cells #[.int .i64 0, .int .i64 0, .int .i64 0, .int .i64 0, .int .i64 0, .int .i64 0, .int .i64 0, .int .i64 0, .int .i64 0, .int .i64 0, .int .i64 0, .int .i64 0, .int .i64 0, .int .i64 0, .int .i64 0, .int .i64 0, .int .i64 0, .int .i64 0, .int .i64 0, .int .i64 0, .int .i64 0, .int .i64 0, .int .i64 0, .int .i64 0] 23); (try (have HR2 := Lib.hid (And.intro (HR.out.1.below hBB) HR.out.2); clear HR; have HR := HR2; clear HR2)); (try (have HZ2 := Lib.hid (And.intro (HZ.out.1.below hBB) HZ.out.2); clear HZ; have HZ := HZ2; clear HZ2)); have HS2 := Lib.hid (HS.out.down hBB); clear HS; have HS := HS2; clear HS2 hBB; (rw [hb]); clear hb; generalize wx.alloc (.cells #[.int .i64 0, .int .i64 0, .int .i64 0, .int .i64 0, .int .i64 0, .int .i64 0, .int .i64 0, .int .i64 0, .int .i64 0, .int .i64 0, .int .i64 0, .int .i64 0, .int .i64 0, .int .i64 0, .int .i64 0, .int .i64 0, .int .i64 0, .int .i64 0, .int .i64 0, .int .i64 0, .int .i64 0, .int .i64 0, .int .i64 0, .int .i64 0] 23) = wn at *
          refine hK.out _ _ ?_ (fun hHeld => ?_)
          · exact ⟨HS.out.c.b.s, HS.out.c.b.p, HS.out.c.b.o⟩
          clear hK K
          (try simp only [Act.put, nA, nB, nC])
          exact SH4.out _ _ _ HS HA HR
        · go_simp; obtain ⟨b12, hb⟩ : ∃ x, wx.heap.size = x := ⟨_, rfl⟩; have HZ := Lib.hid (fs_res HS.out b12 hb); have hBB := (Below.refl wx.heap.size wx).alloc (Nat.le_refl _) (.cells #[.bool false, .int .i64 0, .int .i64 0] 42); (try (have HA2 := Lib.hid (And.intro (HA.out.1.below hBB) HA.out.2); clear HA; have HA := HA2; clear HA2)); (try (have HR2 := Lib.hid (And.intro (HR.out.1.below hBB) HR.out.2); clear HR; have HR := HR2; clear HR2)); have HS2 := Lib.hid (HS.out.down hBB); clear HS; have HS := HS2; clear HS2 hBB; (rw [hb]); clear hb; generalize wx.alloc (.cells #[.bool false, .int .i64 0, .int .i64 0] 42) = wn at *
          refine hK.out _ _ ?_ (fun hHeld => ?_)
          · exact ⟨HS.out.c.b.s, HS.out.c.b.p, HS.out.c.b.o⟩
          clear hK K
          (try simp only [Act.put, nA, nB, nC])
          clear hHeld
          revert HZ
          revert HR
          revert HS
          revert b12
          revert b11
          revert wn
          exact SH6.out
      · go_simp; obtain ⟨b12, hb⟩ : ∃ x, wx.heap.size = x := ⟨_, rfl⟩; have HZ := Lib.hid (fs_res HS.out b12 hb); have hBB := (Below.refl wx.heap.size wx).alloc (Nat.le_refl _) (.cells #[.bool false, .int .i64 0, .int .i64 0] 42); (try (have HA2 := Lib.hid (And.intro (HA.out.1.below hBB) HA.out.2); clear HA; have HA := HA2; clear HA2)); (try (have HR2 := Lib.hid (And.intro (HR.out.1.below hBB) HR.out.2); clear HR; have HR := HR2; clear HR2)); have HS2 := Lib.hid (HS.out.down hBB); clear HS; have HS := HS2; clear HS2 hBB; (rw [hb]); clear hb; generalize wx.alloc (.cells #[.bool false, .int .i64 0, .int .i64 0] 42) = wn at *
        refine hK.out _ _ ?_ (fun hHeld => ?_)
        · exact ⟨HS.out.c.b.s, HS.out.c.b.p, HS.out.c.b.o⟩
        clear hK K
        (try simp only [Act.put, nA, nB, nC])
        clear hHeld
        revert HZ
        revert HS
        revert b12
        revert wn
        intro wx b12 HS HZ
        refine wpAnyM_threeS 4 10 11 rfl rfl rfl (by kernel_rfl) (fun K hK => ?_) (fun K hK => ?_) (fun K hK => ?_)
        · go_simp
          (refine (WN.out _).mono ?_); rintro e wn ⟨rfl, hb6⟩; have HS2 := Lib.hid (HS.out.down hb6); clear HS; have HS := HS2; clear HS2; (try (have HA2 := Lib.hid (And.intro (HA.out.1.below hb6) HA.out.2); clear HA; have HA := HA2; clear HA2)); (try (have HR2 := Lib.hid (And.intro (HR.out.1.below hb6) HR.out.2); clear HR; have HR := HR2; clear HR2)); (try (have HZ2 := Lib.hid (And.intro (HZ.out.1.below hb6) HZ.out.2); clear HZ; have HZ := HZ2; clear HZ2)); clear hb6
          (try dsimp only)
          (try simp only [Act.put, nA, nB, nC])
          refine hK.out _ _ ?_ (fun hHeld => ?_)
          · exact ⟨HS.out.c.b.s, HS.out.c.b.p, HS.out.c.b.o⟩
          clear hK K
          (try simp only [Act.put, nA, nB, nC])
          exact SH3.out _ _ HS HZ
        · go_simp; obtain ⟨b10, hb⟩ : ∃ x, wx.heap.size = x := ⟨_, rfl⟩; have HA := Lib.hid (fs_st HS.out b10 hb); have hBB := (Below.refl wx.heap.size wx).alloc (Nat.le_refl _) (.cells #[.int .i64 0, .int .i64 0, .int .i64 0, .int .i64 0, .int .i64 0, .int .i64 0, .int .i64 0, .int .i64 0, .int .i64 0, .int .i64 0, .int .i64 0, .int .i64 0, .int .i64 0, .int .i64 0, .int .i64 0, .int .i64 0, .int .i64 0, .int .i64 0, .int .i64 0, .int .i64 0, .int .i64 0, .int .i64 0, .int .i64 0, .int .i64 0] 23); (try (have HR2 := Lib.hid (And.intro (HR.out.1.below hBB) HR.out.2); clear HR; have HR := HR2; clear HR2)); (try (have HZ2 := Lib.hid (And.intro (HZ.out.1.below hBB) HZ.out.2); clear HZ; have HZ := HZ2; clear HZ2)); have HS2 := Lib.hid (HS.out.down hBB); clear HS; have HS := HS2; clear HS2 hBB; (rw [hb]); clear hb; generalize wx.alloc (.cells #[.int .i64 0, .int .i64 0, .int .i64 0, .int .i64 0, .int .i64 0, .int .i64 0, .int .i64 0, .int .i64 0, .int .i64 0, .int .i64 0, .int .i64 0, .int .i64 0, .int .i64 0, .int .i64 0, .int .i64 0, .int .i64 0, .int .i64 0, .int .i64 0, .int .i64 0, .int .i64 0, .int .i64 0, .int .i64 0, .int .i64 0, .int .i64 0] 23) = wn at *
          refine hK.out _ _ ?_ (fun hHeld => ?_)
          · exact ⟨HS.out.c.b.s, HS.out.c.b.p, HS.out.c.b.o⟩
          clear hK K
          (try simp only [Act.put, nA, nB, nC])
          exact SH5.out _ _ _ HS HA HZ
        · go_simp; obtain ⟨b11, hb⟩ : ∃ x, wx.heap.size = x := ⟨_, rfl⟩; have HR := Lib.hid (fs_cov HS.out b11 hb); have hBB := (Below.refl wx.heap.size wx).alloc (Nat.le_refl _) (.cells Tryz.zeroCells26 26); (try (have HA2 := Lib.hid (And.intro (HA.out.1.below hBB) HA.out.2); clear HA; have HA := HA2; clear HA2)); (try (have HZ2 := Lib.hid (And.intro (HZ.out.1.below hBB) HZ.out.2); clear HZ; have HZ := HZ2; clear HZ2)); have HS2 := Lib.hid (HS.out.down hBB); clear HS; have HS := HS2; clear HS2 hBB; (rw [hb]); clear hb; generalize wx.alloc (.cells Tryz.zeroCells26 26) = wn at *
          refine hK.out _ _ ?_ (fun hHeld => ?_)
          · exact ⟨HS.out.c.b.s, HS.out.c.b.p, HS.out.c.b.o⟩
          clear hK K
          (try simp only [Act.put, nA, nB, nC])
          exact SH6.out _ _ _ HS HR HZ
    case sp1 =>
      intro wx b10 HS HA
      refine wpAnyM_threeS 5 11 12 rfl rfl rfl (by kernel_rfl) (fun K hK => ?_) (fun K hK => ?_) (fun K hK => ?_)
      · go_simp
        (refine (RN.out _ HS.out.c.c1 HS.out.c.f1).mono ?_); rintro e wn ⟨rfl, hu7⟩; (try (have HA2 := Lib.hid (And.intro (HA.out.1.upd hu7 (by have := HA.out.2; have := HS.out.o2; simp; omega)) HA.out.2); clear HA; have HA := HA2; clear HA2)); (try (have HR2 := Lib.hid (And.intro (HR.out.1.upd hu7 (by have := HR.out.2; have := HS.out.o2; simp; omega)) HR.out.2); clear HR; have HR := HR2; clear HR2)); (try (have HZ2 := Lib.hid (And.intro (HZ.out.1.upd hu7 (by have := HZ.out.2; have := HS.out.o2; simp; omega)) HZ.out.2); clear HZ; have HZ := HZ2; clear HZ2)); have HS2 := Lib.hid (HS.out.upd hu7); clear HS; have HS := HS2; clear HS2 hu7; (simp only [res3])
        (try dsimp only)
        (try simp only [Act.put, nA, nB, nC])
        refine hK.out _ _ ?_ (fun hHeld => ?_)
        · exact ⟨HS.out.c.b.s, HS.out.c.b.p, HS.out.c.b.o⟩
        clear hK K
        (try simp only [Act.put, nA, nB, nC])
        refine wpAnyM_take 6 (v := ?_) rfl (by kernel_rfl) (fun _ _ _ h => h) (Or.inl ⟨by rfl, ?_⟩) (by assumption) ?_
        rotate_left
        · (intro wz hSw; (try dsimp only at hSw); go_simp; (try with_reducible rfl))
        (try simp only [Act.put, nA, nB, nC])
        refine wpAnyM_take 7 (v := ?_) rfl (by kernel_rfl) (fun _ _ _ h => h) (Or.inl ⟨by rfl, ?_⟩) (by assumption) ?_
        rotate_left
        · (intro wz hSw; (try dsimp only at hSw); go_simp; (try with_reducible rfl))
        (try simp only [Act.put, nA, nB, nC])
        refine wpAnyM_take 8 (v := ?_) rfl (by kernel_rfl) (fun _ _ _ h => h) (Or.inl ⟨by rfl, ?_⟩) (by assumption) ?_
        rotate_left
        · (intro wz hSw; (try dsimp only at hSw); go_simp; (try with_reducible rfl))
        (try simp only [Act.put, nA, nB, nC])
        refine wpAnyM_take 9 (v := ?_) rfl (by kernel_rfl) (fun _ _ _ h => h) (Or.inl ⟨by rfl, ?_⟩) (by assumption) ?_
        rotate_left
        · (intro wz hSw; (try dsimp only at hSw); go_simp; (try with_reducible rfl))
        (try simp only [Act.put, nA, nB, nC])
        exact SH7.out _ _ HS HA
      · go_simp; obtain ⟨b11, hb⟩ : ∃ x, wx.heap.size = x := ⟨_, rfl⟩; have HR := Lib.hid (fs_cov HS.out b11 hb); have hBB := (Below.refl wx.heap.size wx).alloc (Nat.le_refl _) (.cells Tryz.zeroCells26 26); (try (have HA2 := Lib.hid (And.intro (HA.out.1.below hBB) HA.out.2); clear HA; have HA := HA2; clear HA2)); (try (have HZ2 := Lib.hid (And.intro (HZ.out.1.below hBB) HZ.out.2); clear HZ; have HZ := HZ2; clear HZ2)); have HS2 := Lib.hid (HS.out.down hBB); clear HS; have HS := HS2; clear HS2 hBB; (rw [hb]); clear hb; generalize wx.alloc (.cells Tryz.zeroCells26 26) = wn at *
        refine hK.out _ _ ?_ (fun hHeld => ?_)
        · exact ⟨HS.out.c.b.s, HS.out.c.b.p, HS.out.c.b.o⟩
        clear hK K
        (try simp only [Act.put, nA, nB, nC])
        clear hHeld
        revert HR
        revert HA
        revert HS
        revert b11
        revert b10
        revert wn
        exact SH10.out
      · go_simp; obtain ⟨b12, hb⟩ : ∃ x, wx.heap.size = x := ⟨_, rfl⟩; have HZ := Lib.hid (fs_res HS.out b12 hb); have hBB := (Below.refl wx.heap.size wx).alloc (Nat.le_refl _) (.cells #[.bool false, .int .i64 0, .int .i64 0] 42); (try (have HA2 := Lib.hid (And.intro (HA.out.1.below hBB) HA.out.2); clear HA; have HA := HA2; clear HA2)); (try (have HR2 := Lib.hid (And.intro (HR.out.1.below hBB) HR.out.2); clear HR; have HR := HR2; clear HR2)); have HS2 := Lib.hid (HS.out.down hBB); clear HS; have HS := HS2; clear HS2 hBB; (rw [hb]); clear hb; generalize wx.alloc (.cells #[.bool false, .int .i64 0, .int .i64 0] 42) = wn at *
        refine hK.out _ _ ?_ (fun hHeld => ?_)
        · exact ⟨HS.out.c.b.s, HS.out.c.b.p, HS.out.c.b.o⟩
        clear hK K
        (try simp only [Act.put, nA, nB, nC])
        clear hHeld
        revert HZ
        revert HA
        revert HS
        revert b12
        revert b10
        revert wn
        exact SH11.out
    case sp2 =>
      intro wx b11 HS HR
      refine wpAnyM_threeS 5 10 12 rfl rfl rfl (by kernel_rfl) (fun K hK => ?_) (fun K hK => ?_) (fun K hK => ?_)
      · go_simp
        (refine (RN.out _ HS.out.c.c1 HS.out.c.f1).mono ?_); rintro e wn ⟨rfl, hu7⟩; (try (have HA2 := Lib.hid (And.intro (HA.out.1.upd hu7 (by have := HA.out.2; have := HS.out.o2; simp; omega)) HA.out.2); clear HA; have HA := HA2; clear HA2)); (try (have HR2 := Lib.hid (And.intro (HR.out.1.upd hu7 (by have := HR.out.2; have := HS.out.o2; simp; omega)) HR.out.2); clear HR; have HR := HR2; clear HR2)); (try (have HZ2 := Lib.hid (And.intro (HZ.out.1.upd hu7 (by have := HZ.out.2; have := HS.out.o2; simp; omega)) HZ.out.2); clear HZ; have HZ := HZ2; clear HZ2)); have HS2 := Lib.hid (HS.out.upd hu7); clear HS; have HS := HS2; clear HS2 hu7; (simp only [res3])
        (try dsimp only)
        (try simp only [Act.put, nA, nB, nC])
        refine hK.out _ _ ?_ (fun hHeld => ?_)
        · exact ⟨HS.out.c.b.s, HS.out.c.b.p, HS.out.c.b.o⟩
        clear hK K
        (try simp only [Act.put, nA, nB, nC])
        refine wpAnyM_take 6 (v := ?_) rfl (by kernel_rfl) (fun _ _ _ h => h) (Or.inl ⟨by rfl, ?_⟩) (by assumption) ?_
        rotate_left
        · (intro wz hSw; (try dsimp only at hSw); go_simp; (try with_reducible rfl))
        (try simp only [Act.put, nA, nB, nC])
        refine wpAnyM_take 7 (v := ?_) rfl (by kernel_rfl) (fun _ _ _ h => h) (Or.inl ⟨by rfl, ?_⟩) (by assumption) ?_
        rotate_left
        · (intro wz hSw; (try dsimp only at hSw); go_simp; (try with_reducible rfl))
        (try simp only [Act.put, nA, nB, nC])
        refine wpAnyM_take 8 (v := ?_) rfl (by kernel_rfl) (fun _ _ _ h => h) (Or.inl ⟨by rfl, ?_⟩) (by assumption) ?_
        rotate_left
        · (intro wz hSw; (try dsimp only at hSw); go_simp; (try with_reducible rfl))
        (try simp only [Act.put, nA, nB, nC])
        refine wpAnyM_take 9 (v := ?_) rfl (by kernel_rfl) (fun _ _ _ h => h) (Or.inl ⟨by rfl, ?_⟩) (by assumption) ?_
        rotate_left
        · (intro wz hSw; (try dsimp only at hSw); go_simp; (try with_reducible rfl))
        (try simp only [Act.put, nA, nB, nC])
        exact SH8.out _ _ HS HR
      · go_simp; obtain ⟨b10, hb⟩ : ∃ x, wx.heap.size = x := ⟨_, rfl⟩; have HA := Lib.hid (fs_st HS.out b10 hb); have hBB := (Below.refl wx.heap.size wx).alloc (Nat.le_refl _) (.cells #[.int .i64 0, .int .i64 0, .int .i64 0, .int .i64 0, .int .i64 0, .int .i64 0, .int .i64 0, .int .i64 0, .int .i64 0, .int .i64 0, .int .i64 0, .int .i64 0, .int .i64 0, .int .i64 0, .int .i64 0, .int .i64 0, .int .i64 0, .int .i64 0, .int .i64 0, .int .i64 0, .int .i64 0, .int .i64 0, .int .i64 0, .int .i64 0] 23); (try (have HR2 := Lib.hid (And.intro (HR.out.1.below hBB) HR.out.2); clear HR; have HR := HR2; clear HR2)); (try (have HZ2 := Lib.hid (And.intro (HZ.out.1.below hBB) HZ.out.2); clear HZ; have HZ := HZ2; clear HZ2)); have HS2 := Lib.hid (HS.out.down hBB); clear HS; have HS := HS2; clear HS2 hBB; (rw [hb]); clear hb; generalize wx.alloc (.cells #[.int .i64 0, .int .i64 0, .int .i64 0, .int .i64 0, .int .i64 0, .int .i64 0, .int .i64 0, .int .i64 0, .int .i64 0, .int .i64 0, .int .i64 0, .int .i64 0, .int .i64 0, .int .i64 0, .int .i64 0, .int .i64 0, .int .i64 0, .int .i64 0, .int .i64 0, .int .i64 0, .int .i64 0, .int .i64 0, .int .i64 0, .int .i64 0] 23) = wn at *
        refine hK.out _ _ ?_ (fun hHeld => ?_)
        · exact ⟨HS.out.c.b.s, HS.out.c.b.p, HS.out.c.b.o⟩
        clear hK K
        (try simp only [Act.put, nA, nB, nC])
        exact SH10.out _ _ _ HS HA HR
      · go_simp; obtain ⟨b12, hb⟩ : ∃ x, wx.heap.size = x := ⟨_, rfl⟩; have HZ := Lib.hid (fs_res HS.out b12 hb); have hBB := (Below.refl wx.heap.size wx).alloc (Nat.le_refl _) (.cells #[.bool false, .int .i64 0, .int .i64 0] 42); (try (have HA2 := Lib.hid (And.intro (HA.out.1.below hBB) HA.out.2); clear HA; have HA := HA2; clear HA2)); (try (have HR2 := Lib.hid (And.intro (HR.out.1.below hBB) HR.out.2); clear HR; have HR := HR2; clear HR2)); have HS2 := Lib.hid (HS.out.down hBB); clear HS; have HS := HS2; clear HS2 hBB; (rw [hb]); clear hb; generalize wx.alloc (.cells #[.bool false, .int .i64 0, .int .i64 0] 42) = wn at *
        refine hK.out _ _ ?_ (fun hHeld => ?_)
        · exact ⟨HS.out.c.b.s, HS.out.c.b.p, HS.out.c.b.o⟩
        clear hK K
        (try simp only [Act.put, nA, nB, nC])
        clear hHeld
        revert HZ
        revert HR
        revert HS
        revert b12
        revert b11
        revert wn
        exact SH12.out
    case sp3 =>
      intro wx b12 HS HZ
      refine wpAnyM_threeS 5 10 11 rfl rfl rfl (by kernel_rfl) (fun K hK => ?_) (fun K hK => ?_) (fun K hK => ?_)
      · go_simp
        (refine (RN.out _ HS.out.c.c1 HS.out.c.f1).mono ?_); rintro e wn ⟨rfl, hu7⟩; (try (have HA2 := Lib.hid (And.intro (HA.out.1.upd hu7 (by have := HA.out.2; have := HS.out.o2; simp; omega)) HA.out.2); clear HA; have HA := HA2; clear HA2)); (try (have HR2 := Lib.hid (And.intro (HR.out.1.upd hu7 (by have := HR.out.2; have := HS.out.o2; simp; omega)) HR.out.2); clear HR; have HR := HR2; clear HR2)); (try (have HZ2 := Lib.hid (And.intro (HZ.out.1.upd hu7 (by have := HZ.out.2; have := HS.out.o2; simp; omega)) HZ.out.2); clear HZ; have HZ := HZ2; clear HZ2)); have HS2 := Lib.hid (HS.out.upd hu7); clear HS; have HS := HS2; clear HS2 hu7; (simp only [res3])
        (try dsimp only)
        (try simp only [Act.put, nA, nB, nC])
        refine hK.out _ _ ?_ (fun hHeld => ?_)
        · exact ⟨HS.out.c.b.s, HS.out.c.b.p, HS.out.c.b.o⟩
        clear hK K
        (try simp only [Act.put, nA, nB, nC])
        refine wpAnyM_take 6 (v := ?_) rfl (by kernel_rfl) (fun _ _ _ h => h) (Or.inl ⟨by rfl, ?_⟩) (by assumption) ?_
        rotate_left
        · (intro wz hSw; (try dsimp only at hSw); go_simp; (try with_reducible rfl))
        (try simp only [Act.put, nA, nB, nC])
        refine wpAnyM_take 7 (v := ?_) rfl (by kernel_rfl) (fun _ _ _ h => h) (Or.inl ⟨by rfl, ?_⟩) (by assumption) ?_
        rotate_left
        · (intro wz hSw; (try dsimp only at hSw); go_simp; (try with_reducible rfl))
        (try simp only [Act.put, nA, nB, nC])
        refine wpAnyM_take 8 (v := ?_) rfl (by kernel_rfl) (fun _ _ _ h => h) (Or.inl ⟨by rfl, ?_⟩) (by assumption) ?_
        rotate_left
        · (intro wz hSw; (try dsimp only at hSw); go_simp; (try with_reducible rfl))
        (try simp only [Act.put, nA, nB, nC])
        refine wpAnyM_take 9 (v := ?_) rfl (by kernel_rfl) (fun _ _ _ h => h) (Or.inl ⟨by rfl, ?_⟩) (by assumption) ?_
        rotate_left
        · (intro wz hSw; (try dsimp only at hSw); go_simp; (try with_reducible rfl))
        (try simp only [Act.put, nA, nB, nC])
        exact SH9.out _ _ HS HZ
      · go_simp; obtain ⟨b10, hb⟩ : ∃ x, wx.heap.size = x := ⟨_, rfl⟩; have HA := Lib.hid (fs_st HS.out b10 hb); have hBB := (Below.refl wx.heap.size wx).alloc (Nat.le_refl _) (.cells #[.int .i64 0, .int .i64 0, .int .i64 0, .int .i64 0, .int .i64 0, .int .i64 0, .int .i64 0, .int .i64 0, .int .i64 0, .int .i64 0, .int .i64 0, .int .i64 0, .int .i64 0, .int .i64 0, .int .i64 0, .int .i64 0, .int .i64 0, .int .i64 0, .int .i64 0, .int .i64 0, .int .i64 0, .int .i64 0, .int .i64 0, .int .i64 0] 23); (try (have HR2 := Lib.hid (And.intro (HR.out.1.below hBB) HR.out.2); clear HR; have HR := HR2; clear HR2)); (try (have HZ2 := Lib.hid (And.intro (HZ.out.1.below hBB) HZ.out.2); clear HZ; have HZ := HZ2; clear HZ2)); have HS2 := Lib.hid (HS.out.down hBB); clear HS; have HS := HS2; clear HS2 hBB; (rw [hb]); clear hb; generalize wx.alloc (.cells #[.int .i64 0, .int .i64 0, .int .i64 0, .int .i64 0, .int .i64 0, .int .i64 0, .int .i64 0, .int .i64 0, .int .i64 0, .int .i64 0, .int .i64 0, .int .i64 0, .int .i64 0, .int .i64 0, .int .i64 0, .int .i64 0, .int .i64 0, .int .i64 0, .int .i64 0, .int .i64 0, .int .i64 0, .int .i64 0, .int .i64 0, .int .i64 0] 23) = wn at *
        refine hK.out _ _ ?_ (fun hHeld => ?_)
        · exact ⟨HS.out.c.b.s, HS.out.c.b.p, HS.out.c.b.o⟩
        clear hK K
        (try simp only [Act.put, nA, nB, nC])
        exact SH11.out _ _ _ HS HA HZ
      · go_simp; obtain ⟨b11, hb⟩ : ∃ x, wx.heap.size = x := ⟨_, rfl⟩; have HR := Lib.hid (fs_cov HS.out b11 hb); have hBB := (Below.refl wx.heap.size wx).alloc (Nat.le_refl _) (.cells Tryz.zeroCells26 26); (try (have HA2 := Lib.hid (And.intro (HA.out.1.below hBB) HA.out.2); clear HA; have HA := HA2; clear HA2)); (try (have HZ2 := Lib.hid (And.intro (HZ.out.1.below hBB) HZ.out.2); clear HZ; have HZ := HZ2; clear HZ2)); have HS2 := Lib.hid (HS.out.down hBB); clear HS; have HS := HS2; clear HS2 hBB; (rw [hb]); clear hb; generalize wx.alloc (.cells Tryz.zeroCells26 26) = wn at *
        refine hK.out _ _ ?_ (fun hHeld => ?_)
        · exact ⟨HS.out.c.b.s, HS.out.c.b.p, HS.out.c.b.o⟩
        clear hK K
        (try simp only [Act.put, nA, nB, nC])
        exact SH12.out _ _ _ HS HR HZ
    case sp4 =>
      intro wx b10 b11 HS HA HR
      refine wpAnyM_twoS 4 12 rfl rfl (by kernel_rfl) (fun K hK => ?_) (fun K hK => ?_)
      · go_simp
        (refine (WN.out _).mono ?_); rintro e wn ⟨rfl, hb6⟩; have HS2 := Lib.hid (HS.out.down hb6); clear HS; have HS := HS2; clear HS2; (try (have HA2 := Lib.hid (And.intro (HA.out.1.below hb6) HA.out.2); clear HA; have HA := HA2; clear HA2)); (try (have HR2 := Lib.hid (And.intro (HR.out.1.below hb6) HR.out.2); clear HR; have HR := HR2; clear HR2)); (try (have HZ2 := Lib.hid (And.intro (HZ.out.1.below hb6) HZ.out.2); clear HZ; have HZ := HZ2; clear HZ2)); clear hb6
        (try dsimp only)
        (try simp only [Act.put, nA, nB, nC])
        refine hK.out _ _ ?_ (fun hHeld => ?_)
        · exact ⟨HS.out.c.b.s, HS.out.c.b.p, HS.out.c.b.o⟩
        clear hK K
        (try simp only [Act.put, nA, nB, nC])
        exact SH10.out _ _ _ HS HA HR
      · go_simp; obtain ⟨b12, hb⟩ : ∃ x, wx.heap.size = x := ⟨_, rfl⟩; have HZ := Lib.hid (fs_res HS.out b12 hb); have hBB := (Below.refl wx.heap.size wx).alloc (Nat.le_refl _) (.cells #[.bool false, .int .i64 0, .int .i64 0] 42); (try (have HA2 := Lib.hid (And.intro (HA.out.1.below hBB) HA.out.2); clear HA; have HA := HA2; clear HA2)); (try (have HR2 := Lib.hid (And.intro (HR.out.1.below hBB) HR.out.2); clear HR; have HR := HR2; clear HR2)); have HS2 := Lib.hid (HS.out.down hBB); clear HS; have HS := HS2; clear HS2 hBB; (rw [hb]); clear hb; generalize wx.alloc (.cells #[.bool false, .int .i64 0, .int .i64 0] 42) = wn at *
        refine hK.out _ _ ?_ (fun hHeld => ?_)
        · exact ⟨HS.out.c.b.s, HS.out.c.b.p, HS.out.c.b.o⟩
        clear hK K
        (try simp only [Act.put, nA, nB, nC])
        clear hHeld
        revert HZ
        revert HR
        revert HA
        revert HS
        revert b12
        revert b11
        revert b10
        revert wn
        exact SH13.out
    case sp5 =>
      intro wx b10 b12 HS HA HZ
      refine wpAnyM_twoS 4 11 rfl rfl (by kernel_rfl) (fun K hK => ?_) (fun K hK => ?_)
      · go_simp
        (refine (WN.out _).mono ?_); rintro e wn ⟨rfl, hb6⟩; have HS2 := Lib.hid (HS.out.down hb6); clear HS; have HS := HS2; clear HS2; (try (have HA2 := Lib.hid (And.intro (HA.out.1.below hb6) HA.out.2); clear HA; have HA := HA2; clear HA2)); (try (have HR2 := Lib.hid (And.intro (HR.out.1.below hb6) HR.out.2); clear HR; have HR := HR2; clear HR2)); (try (have HZ2 := Lib.hid (And.intro (HZ.out.1.below hb6) HZ.out.2); clear HZ; have HZ := HZ2; clear HZ2)); clear hb6
        (try dsimp only)
        (try simp only [Act.put, nA, nB, nC])
        refine hK.out _ _ ?_ (fun hHeld => ?_)
        · exact ⟨HS.out.c.b.s, HS.out.c.b.p, HS.out.c.b.o⟩
        clear hK K
        (try simp only [Act.put, nA, nB, nC])
        exact SH11.out _ _ _ HS HA HZ
      · go_simp; obtain ⟨b11, hb⟩ : ∃ x, wx.heap.size = x := ⟨_, rfl⟩; have HR := Lib.hid (fs_cov HS.out b11 hb); have hBB := (Below.refl wx.heap.size wx).alloc (Nat.le_refl _) (.cells Tryz.zeroCells26 26); (try (have HA2 := Lib.hid (And.intro (HA.out.1.below hBB) HA.out.2); clear HA; have HA := HA2; clear HA2)); (try (have HZ2 := Lib.hid (And.intro (HZ.out.1.below hBB) HZ.out.2); clear HZ; have HZ := HZ2; clear HZ2)); have HS2 := Lib.hid (HS.out.down hBB); clear HS; have HS := HS2; clear HS2 hBB; (rw [hb]); clear hb; generalize wx.alloc (.cells Tryz.zeroCells26 26) = wn at *
        refine hK.out _ _ ?_ (fun hHeld => ?_)
        · exact ⟨HS.out.c.b.s, HS.out.c.b.p, HS.out.c.b.o⟩
        clear hK K
        (try simp only [Act.put, nA, nB, nC])
        exact SH13.out _ _ _ _ HS HA HR HZ
    case sp6 =>
      intro wx b11 b12 HS HR HZ
      refine wpAnyM_twoS 4 10 rfl rfl (by kernel_rfl) (fun K hK => ?_) (fun K hK => ?_)
      · go_simp
        (refine (WN.out _).mono ?_); rintro e wn ⟨rfl, hb6⟩; have HS2 := Lib.hid (HS.out.down hb6); clear HS; have HS := HS2; clear HS2; (try (have HA2 := Lib.hid (And.intro (HA.out.1.below hb6) HA.out.2); clear HA; have HA := HA2; clear HA2)); (try (have HR2 := Lib.hid (And.intro (HR.out.1.below hb6) HR.out.2); clear HR; have HR := HR2; clear HR2)); (try (have HZ2 := Lib.hid (And.intro (HZ.out.1.below hb6) HZ.out.2); clear HZ; have HZ := HZ2; clear HZ2)); clear hb6
        (try dsimp only)
        (try simp only [Act.put, nA, nB, nC])
        refine hK.out _ _ ?_ (fun hHeld => ?_)
        · exact ⟨HS.out.c.b.s, HS.out.c.b.p, HS.out.c.b.o⟩
        clear hK K
        (try simp only [Act.put, nA, nB, nC])
        exact SH12.out _ _ _ HS HR HZ
      · go_simp; obtain ⟨b10, hb⟩ : ∃ x, wx.heap.size = x := ⟨_, rfl⟩; have HA := Lib.hid (fs_st HS.out b10 hb); have hBB := (Below.refl wx.heap.size wx).alloc (Nat.le_refl _) (.cells #[.int .i64 0, .int .i64 0, .int .i64 0, .int .i64 0, .int .i64 0, .int .i64 0, .int .i64 0, .int .i64 0, .int .i64 0, .int .i64 0, .int .i64 0, .int .i64 0, .int .i64 0, .int .i64 0, .int .i64 0, .int .i64 0, .int .i64 0, .int .i64 0, .int .i64 0, .int .i64 0, .int .i64 0, .int .i64 0, .int .i64 0, .int .i64 0] 23); (try (have HR2 := Lib.hid (And.intro (HR.out.1.below hBB) HR.out.2); clear HR; have HR := HR2; clear HR2)); (try (have HZ2 := Lib.hid (And.intro (HZ.out.1.below hBB) HZ.out.2); clear HZ; have HZ := HZ2; clear HZ2)); have HS2 := Lib.hid (HS.out.down hBB); clear HS; have HS := HS2; clear HS2 hBB; (rw [hb]); clear hb; generalize wx.alloc (.cells #[.int .i64 0, .int .i64 0, .int .i64 0, .int .i64 0, .int .i64 0, .int .i64 0, .int .i64 0, .int .i64 0, .int .i64 0, .int .i64 0, .int .i64 0, .int .i64 0, .int .i64 0, .int .i64 0, .int .i64 0, .int .i64 0, .int .i64 0, .int .i64 0, .int .i64 0, .int .i64 0, .int .i64 0, .int .i64 0, .int .i64 0, .int .i64 0] 23) = wn at *
        refine hK.out _ _ ?_ (fun hHeld => ?_)
        · exact ⟨HS.out.c.b.s, HS.out.c.b.p, HS.out.c.b.o⟩
        clear hK K
        (try simp only [Act.put, nA, nB, nC])
        exact SH13.out _ _ _ _ HS HA HR HZ
    case sp7 =>
      intro wx b10 HS HA
      refine wpAnyM_twoS 11 12 rfl rfl (by kernel_rfl) (fun K hK => ?_) (fun K hK => ?_)
      · go_simp; obtain ⟨b11, hb⟩ : ∃ x, wx.heap.size = x := ⟨_, rfl⟩; have HR := Lib.hid (fs_cov HS.out b11 hb); have hBB := (Below.refl wx.heap.size wx).alloc (Nat.le_refl _) (.cells Tryz.zeroCells26 26); (try (have HA2 := Lib.hid (And.intro (HA.out.1.below hBB) HA.out.2); clear HA; have HA := HA2; clear HA2)); (try (have HZ2 := Lib.hid (And.intro (HZ.out.1.below hBB) HZ.out.2); clear HZ; have HZ := HZ2; clear HZ2)); have HS2 := Lib.hid (HS.out.down hBB); clear HS; have HS := HS2; clear HS2 hBB; (rw [hb]); clear hb; generalize wx.alloc (.cells Tryz.zeroCells26 26) = wn at *
        refine hK.out _ _ ?_ (fun hHeld => ?_)
        · exact ⟨HS.out.c.b.s, HS.out.c.b.p, HS.out.c.b.o⟩
        clear hK K
        (try simp only [Act.put, nA, nB, nC])
        clear hHeld
        revert HR
        revert HA
        revert HS
        revert b11
        revert b10
        revert wn
        exact SH14.out
      · go_simp; obtain ⟨b12, hb⟩ : ∃ x, wx.heap.size = x := ⟨_, rfl⟩; have HZ := Lib.hid (fs_res HS.out b12 hb); have hBB := (Below.refl wx.heap.size wx).alloc (Nat.le_refl _) (.cells #[.bool false, .int .i64 0, .int .i64 0] 42); (try (have HA2 := Lib.hid (And.intro (HA.out.1.below hBB) HA.out.2); clear HA; have HA := HA2; clear HA2)); (try (have HR2 := Lib.hid (And.intro (HR.out.1.below hBB) HR.out.2); clear HR; have HR := HR2; clear HR2)); have HS2 := Lib.hid (HS.out.down hBB); clear HS; have HS := HS2; clear HS2 hBB; (rw [hb]); clear hb; generalize wx.alloc (.cells #[.bool false, .int .i64 0, .int .i64 0] 42) = wn at *
        refine hK.out _ _ ?_ (fun hHeld => ?_)
        · exact ⟨HS.out.c.b.s, HS.out.c.b.p, HS.out.c.b.o⟩
        clear hK K
        (try simp only [Act.put, nA, nB, nC])
        clear hHeld
        revert HZ
        revert HA
        revert HS
        revert b12
        revert b10
        revert wn
        exact SH15.out
    case sp8 =>
      intro wx b11 HS HR
      refine wpAnyM_twoS 10 12 rfl rfl (by kernel_rfl) (fun K hK => ?_) (fun K hK => ?_)
      · go_simp; obtain ⟨b10, hb⟩ : ∃ x, wx.heap.size = x := ⟨_, rfl⟩; have HA := Lib.hid (fs_st HS.out b10 hb); have hBB := (Below.refl wx.heap.size wx).alloc (Nat.le_refl _) (.cells #[.int .i64 0, .int .i64 0, .int .i64 0, .int .i64 0, .int .i64 0, .int .i64 0, .int .i64 0, .int .i64 0, .int .i64 0, .int .i64 0, .int .i64 0, .int .i64 0, .int .i64 0, .int .i64 0, .int .i64 0, .int .i64 0, .int .i64 0, .int .i64 0, .int .i64 0, .int .i64 0, .int .i64 0, .int .i64 0, .int .i64 0, .int .i64 0] 23); (try (have HR2 := Lib.hid (And.intro (HR.out.1.below hBB) HR.out.2); clear HR; have HR := HR2; clear HR2)); (try (have HZ2 := Lib.hid (And.intro (HZ.out.1.below hBB) HZ.out.2); clear HZ; have HZ := HZ2; clear HZ2)); have HS2 := Lib.hid (HS.out.down hBB); clear HS; have HS := HS2; clear HS2 hBB; (rw [hb]); clear hb; generalize wx.alloc (.cells #[.int .i64 0, .int .i64 0, .int .i64 0, .int .i64 0, .int .i64 0, .int .i64 0, .int .i64 0, .int .i64 0, .int .i64 0, .int .i64 0, .int .i64 0, .int .i64 0, .int .i64 0, .int .i64 0, .int .i64 0, .int .i64 0, .int .i64 0, .int .i64 0, .int .i64 0, .int .i64 0, .int .i64 0, .int .i64 0, .int .i64 0, .int .i64 0] 23) = wn at *
        refine hK.out _ _ ?_ (fun hHeld => ?_)
        · exact ⟨HS.out.c.b.s, HS.out.c.b.p, HS.out.c.b.o⟩
        clear hK K
        (try simp only [Act.put, nA, nB, nC])
        exact SH14.out _ _ _ HS HA HR
      · go_simp; obtain ⟨b12, hb⟩ : ∃ x, wx.heap.size = x := ⟨_, rfl⟩; have HZ := Lib.hid (fs_res HS.out b12 hb); have hBB := (Below.refl wx.heap.size wx).alloc (Nat.le_refl _) (.cells #[.bool false, .int .i64 0, .int .i64 0] 42); (try (have HA2 := Lib.hid (And.intro (HA.out.1.below hBB) HA.out.2); clear HA; have HA := HA2; clear HA2)); (try (have HR2 := Lib.hid (And.intro (HR.out.1.below hBB) HR.out.2); clear HR; have HR := HR2; clear HR2)); have HS2 := Lib.hid (HS.out.down hBB); clear HS; have HS := HS2; clear HS2 hBB; (rw [hb]); clear hb; generalize wx.alloc (.cells #[.bool false, .int .i64 0, .int .i64 0] 42) = wn at *
        refine hK.out _ _ ?_ (fun hHeld => ?_)
        · exact ⟨HS.out.c.b.s, HS.out.c.b.p, HS.out.c.b.o⟩
        clear hK K
        (try simp only [Act.put, nA, nB, nC])
        clear hHeld
        revert HZ
        revert HR
        revert HS
        revert b12
        revert b11
        revert wn
        exact SH16.out
    case sp9 =>
      intro wx b12 HS HZ
      refine wpAnyM_twoS 10 11 rfl rfl (by kernel_rfl) (fun K hK => ?_) (fun K hK => ?_)
      · go_simp; obtain ⟨b10, hb⟩ : ∃ x, wx.heap.size = x := ⟨_, rfl⟩; have HA := Lib.hid (fs_st HS.out b10 hb); have hBB := (Below.refl wx.heap.size wx).alloc (Nat.le_refl _) (.cells #[.int .i64 0, .int .i64 0, .int .i64 0, .int .i64 0, .int .i64 0, .int .i64 0, .int .i64 0, .int .i64 0, .int .i64 0, .int .i64 0, .int .i64 0, .int .i64 0, .int .i64 0, .int .i64 0, .int .i64 0, .int .i64 0, .int .i64 0, .int .i64 0, .int .i64 0, .int .i64 0, .int .i64 0, .int .i64 0, .int .i64 0, .int .i64 0] 23); (try (have HR2 := Lib.hid (And.intro (HR.out.1.below hBB) HR.out.2); clear HR; have HR := HR2; clear HR2)); (try (have HZ2 := Lib.hid (And.intro (HZ.out.1.below hBB) HZ.out.2); clear HZ; have HZ := HZ2; clear HZ2)); have HS2 := Lib.hid (HS.out.down hBB); clear HS; have HS := HS2; clear HS2 hBB; (rw [hb]); clear hb; generalize wx.alloc (.cells #[.int .i64 0, .int .i64 0, .int .i64 0, .int .i64 0, .int .i64 0, .int .i64 0, .int .i64 0, .int .i64 0, .int .i64 0, .int .i64 0, .int .i64 0, .int .i64 0, .int .i64 0, .int .i64 0, .int .i64 0, .int .i64 0, .int .i64 0, .int .i64 0, .int .i64 0, .int .i64 0, .int .i64 0, .int .i64 0, .int .i64 0, .int .i64 0] 23) = wn at *
        refine hK.out _ _ ?_ (fun hHeld => ?_)
        · exact ⟨HS.out.c.b.s, HS.out.c.b.p, HS.out.c.b.o⟩
        clear hK K
        (try simp only [Act.put, nA, nB, nC])
        exact SH15.out _ _ _ HS HA HZ
      · go_simp; obtain ⟨b11, hb⟩ : ∃ x, wx.heap.size = x := ⟨_, rfl⟩; have HR := Lib.hid (fs_cov HS.out b11 hb); have hBB := (Below.refl wx.heap.size wx).alloc (Nat.le_refl _) (.cells Tryz.zeroCells26 26); (try (have HA2 := Lib.hid (And.intro (HA.out.1.below hBB) HA.out.2); clear HA; have HA := HA2; clear HA2)); (try (have HZ2 := Lib.hid (And.intro (HZ.out.1.below hBB) HZ.out.2); clear HZ; have HZ := HZ2; clear HZ2)); have HS2 := Lib.hid (HS.out.down hBB); clear HS; have HS := HS2; clear HS2 hBB; (rw [hb]); clear hb; generalize wx.alloc (.cells Tryz.zeroCells26 26) = wn at *
        refine hK.out _ _ ?_ (fun hHeld => ?_)
        · exact ⟨HS.out.c.b.s, HS.out.c.b.p, HS.out.c.b.o⟩
        clear hK K
        (try simp only [Act.put, nA, nB, nC])
        exact SH16.out _ _ _ HS HR HZ
    case sp10 =>
      intro wx b10 b11 HS HA HR
      refine wpAnyM_twoS 5 12 rfl rfl (by kernel_rfl) (fun K hK => ?_) (fun K hK => ?_)
      · go_simp
        (refine (RN.out _ HS.out.c.c1 HS.out.c.f1).mono ?_); rintro e wn ⟨rfl, hu7⟩; (try (have HA2 := Lib.hid (And.intro (HA.out.1.upd hu7 (by have := HA.out.2; have := HS.out.o2; simp; omega)) HA.out.2); clear HA; have HA := HA2; clear HA2)); (try (have HR2 := Lib.hid (And.intro (HR.out.1.upd hu7 (by have := HR.out.2; have := HS.out.o2; simp; omega)) HR.out.2); clear HR; have HR := HR2; clear HR2)); (try (have HZ2 := Lib.hid (And.intro (HZ.out.1.upd hu7 (by have := HZ.out.2; have := HS.out.o2; simp; omega)) HZ.out.2); clear HZ; have HZ := HZ2; clear HZ2)); have HS2 := Lib.hid (HS.out.upd hu7); clear HS; have HS := HS2; clear HS2 hu7; (simp only [res3])
        (try dsimp only)
        (try simp only [Act.put, nA, nB, nC])
        refine hK.out _ _ ?_ (fun hHeld => ?_)
        · exact ⟨HS.out.c.b.s, HS.out.c.b.p, HS.out.c.b.o⟩
        clear hK K
        (try simp only [Act.put, nA, nB, nC])
        refine wpAnyM_take 6 (v := ?_) rfl (by kernel_rfl) (fun _ _ _ h => h) (Or.inl ⟨by rfl, ?_⟩) (by assumption) ?_
        rotate_left
        · (intro wz hSw; (try dsimp only at hSw); go_simp; (try with_reducible rfl))
        (try simp only [Act.put, nA, nB, nC])
        refine wpAnyM_take 7 (v := ?_) rfl (by kernel_rfl) (fun _ _ _ h => h) (Or.inl ⟨by rfl, ?_⟩) (by assumption) ?_
        rotate_left
        · (intro wz hSw; (try dsimp only at hSw); go_simp; (try with_reducible rfl))
        (try simp only [Act.put, nA, nB, nC])
        refine wpAnyM_take 8 (v := ?_) rfl (by kernel_rfl) (fun _ _ _ h => h) (Or.inl ⟨by rfl, ?_⟩) (by assumption) ?_
        rotate_left
        · (intro wz hSw; (try dsimp only at hSw); go_simp; (try with_reducible rfl))
        (try simp only [Act.put, nA, nB, nC])
        refine wpAnyM_take 9 (v := ?_) rfl (by kernel_rfl) (fun _ _ _ h => h) (Or.inl ⟨by rfl, ?_⟩) (by assumption) ?_
        rotate_left
        · (intro wz hSw; (try dsimp only at hSw); go_simp; (try with_reducible rfl))
        (try simp only [Act.put, nA, nB, nC])
        exact SH14.out _ _ _ HS HA HR
      · go_simp; obtain ⟨b12, hb⟩ : ∃ x, wx.heap.size = x := ⟨_, rfl⟩; have HZ := Lib.hid (fs_res HS.out b12 hb); have hBB := (Below.refl wx.heap.size wx).alloc (Nat.le_refl _) (.cells #[.bool false, .int .i64 0, .int .i64 0] 42); (try (have HA2 := Lib.hid (And.intro (HA.out.1.below hBB) HA.out.2); clear HA; have HA := HA2; clear HA2)); (try (have HR2 := Lib.hid (And.intro (HR.out.1.below hBB) HR.out.2); clear HR; have HR := HR2; clear HR2)); have HS2 := Lib.hid (HS.out.down hBB); clear HS; have HS := HS2; clear HS2 hBB; (rw [hb]); clear hb; generalize wx.alloc (.cells #[.bool false, .int .i64 0, .int .i64 0] 42) = wn at *
        refine hK.out _ _ ?_ (fun hHeld => ?_)
        · exact ⟨HS.out.c.b.s, HS.out.c.b.p, HS.out.c.b.o⟩
        clear hK K
        (try simp only [Act.put, nA, nB, nC])
        clear hHeld
        revert HZ
        revert HR
        revert HA
        revert HS
        revert b12
        revert b11
        revert b10
        revert wn
        exact SH17.out
    case sp11 =>
      intro wx b10 b12 HS HA HZ
      refine wpAnyM_twoS 5 11 rfl rfl (by kernel_rfl) (fun K hK => ?_) (fun K hK => ?_)
      · go_simp
        (refine (RN.out _ HS.out.c.c1 HS.out.c.f1).mono ?_); rintro e wn ⟨rfl, hu7⟩; (try (have HA2 := Lib.hid (And.intro (HA.out.1.upd hu7 (by have := HA.out.2; have := HS.out.o2; simp; omega)) HA.out.2); clear HA; have HA := HA2; clear HA2)); (try (have HR2 := Lib.hid (And.intro (HR.out.1.upd hu7 (by have := HR.out.2; have := HS.out.o2; simp; omega)) HR.out.2); clear HR; have HR := HR2; clear HR2)); (try (have HZ2 := Lib.hid (And.intro (HZ.out.1.upd hu7 (by have := HZ.out.2; have := HS.out.o2; simp; omega)) HZ.out.2); clear HZ; have HZ := HZ2; clear HZ2)); have HS2 := Lib.hid (HS.out.upd hu7); clear HS; have HS := HS2; clear HS2 hu7; (simp only [res3])
        (try dsimp only)
        (try simp only [Act.put, nA, nB, nC])
        refine hK.out _ _ ?_ (fun hHeld => ?_)
        · exact ⟨HS.out.c.b.s, HS.out.c.b.p, HS.out.c.b.o⟩
        clear hK K
        (try simp only [Act.put, nA, nB, nC])
        refine wpAnyM_take 6 (v := ?_) rfl (by kernel_rfl) (fun _ _ _ h => h) (Or.inl ⟨by rfl, ?_⟩) (by assumption) ?_
        rotate_left
        · (intro wz hSw; (try dsimp only at hSw); go_simp; (try with_reducible rfl))
        (try simp only [Act.put, nA, nB, nC])
        refine wpAnyM_take 7 (v := ?_) rfl (by kernel_rfl) (fun _ _ _ h => h) (Or.inl ⟨by rfl, ?_⟩) (by assumption) ?_
        rotate_left
        · (intro wz hSw; (try dsimp only at hSw); go_simp; (try with_reducible rfl))
        (try simp only [Act.put, nA, nB, nC])
        refine wpAnyM_take 8 (v := ?_) rfl (by kernel_rfl) (fun _ _ _ h => h) (Or.inl ⟨by rfl, ?_⟩) (by assumption) ?_
        rotate_left
        · (intro wz hSw; (try dsimp only at hSw); go_simp; (try with_reducible rfl))
        (try simp only [Act.put, nA, nB, nC])
        refine wpAnyM_take 9 (v := ?_) rfl (by kernel_rfl) (fun _ _ _ h => h) (Or.inl ⟨by rfl, ?_⟩) (by assumption) ?_
        rotate_left
        · (intro wz hSw; (try dsimp only at hSw); go_simp; (try with_reducible rfl))
        (try simp only [Act.put, nA, nB, nC])
        exact SH15.out _ _ _ HS HA HZ
      · go_simp; obtain ⟨b11, hb⟩ : ∃ x, wx.heap.size = x := ⟨_, rfl⟩; have HR := Lib.hid (fs_cov HS.out b11 hb); have hBB := (Below.refl wx.heap.size wx).alloc (Nat.le_refl _) (.cells Tryz.zeroCells26 26); (try (have HA2 := Lib.hid (And.intro (HA.out.1.below hBB) HA.out.2); clear HA; have HA := HA2; clear HA2)); (try (have HZ2 := Lib.hid (And.intro (HZ.out.1.below hBB) HZ.out.2); clear HZ; have HZ := HZ2; clear HZ2)); have HS2 := Lib.hid (HS.out.down hBB); clear HS; have HS := HS2; clear HS2 hBB; (rw [hb]); clear hb; generalize wx.alloc (.cells Tryz.zeroCells26 26) = wn at *
        refine hK.out _ _ ?_ (fun hHeld => ?_)
        · exact ⟨HS.out.c.b.s, HS.out.c.b.p, HS.out.c.b.o⟩
        clear hK K
        (try simp only [Act.put, nA, nB, nC])
        exact SH17.out _ _ _ _ HS HA HR HZ
    case sp12 =>
      intro wx b11 b12 HS HR HZ
      refine wpAnyM_twoS 5 10 rfl rfl (by kernel_rfl) (fun K hK => ?_) (fun K hK => ?_)
      · go_simp
        (refine (RN.out _ HS.out.c.c1 HS.out.c.f1).mono ?_); rintro e wn ⟨rfl, hu7⟩; (try (have HA2 := Lib.hid (And.intro (HA.out.1.upd hu7 (by have := HA.out.2; have := HS.out.o2; simp; omega)) HA.out.2); clear HA; have HA := HA2; clear HA2)); (try (have HR2 := Lib.hid (And.intro (HR.out.1.upd hu7 (by have := HR.out.2; have := HS.out.o2; simp; omega)) HR.out.2); clear HR; have HR := HR2; clear HR2)); (try (have HZ2 := Lib.hid (And.intro (HZ.out.1.upd hu7 (by have := HZ.out.2; have := HS.out.o2; simp; omega)) HZ.out.2); clear HZ; have HZ := HZ2; clear HZ2)); have HS2 := Lib.hid (HS.out.upd hu7); clear HS; have HS := HS2; clear HS2 hu7; (simp only [res3])
        (try dsimp only)
        (try simp only [Act.put, nA, nB, nC])
        refine hK.out _ _ ?_ (fun hHeld => ?_)
        · exact ⟨HS.out.c.b.s, HS.out.c.b.p, HS.out.c.b.o⟩
        clear hK K
        (try simp only [Act.put, nA, nB, nC])
        refine wpAnyM_take 6 (v := ?_) rfl (by kernel_rfl) (fun _ _ _ h => h) (Or.inl ⟨by rfl, ?_⟩) (by assumption) ?_
        rotate_left
        · (intro wz hSw; (try dsimp only at hSw); go_simp; (try with_reducible rfl))
        (try simp only [Act.put, nA, nB, nC])
        refine wpAnyM_take 7 (v := ?_) rfl (by kernel_rfl) (fun _ _ _ h => h) (Or.inl ⟨by rfl, ?_⟩) (by assumption) ?_
        rotate_left
        · (intro wz hSw; (try dsimp only at hSw); go_simp; (try with_reducible rfl))
        (try simp only [Act.put, nA, nB, nC])
        refine wpAnyM_take 8 (v := ?_) rfl (by kernel_rfl) (fun _ _ _ h => h) (Or.inl ⟨by rfl, ?_⟩) (by assumption) ?_
        rotate_left
        · (intro wz hSw; (try dsimp only at hSw); go_simp; (try with_reducible rfl))
        (try simp only [Act.put, nA, nB, nC])
        refine wpAnyM_take 9 (v := ?_) rfl (by kernel_rfl) (fun _ _ _ h => h) (Or.inl ⟨by rfl, ?_⟩) (by assumption) ?_
        rotate_left
        · (intro wz hSw; (try dsimp only at hSw); go_simp; (try with_reducible rfl))
        (try simp only [Act.put, nA, nB, nC])
        exact SH16.out _ _ _ HS HR HZ
      · go_simp; obtain ⟨b10, hb⟩ : ∃ x, wx.heap.size = x := ⟨_, rfl⟩; have HA := Lib.hid (fs_st HS.out b10 hb); have hBB := (Below.refl wx.heap.size wx).alloc (Nat.le_refl _) (.cells #[.int .i64 0, .int .i64 0, .int .i64 0, .int .i64 0, .int .i64 0, .int .i64 0, .int .i64 0, .int .i64 0, .int .i64 0, .int .i64 0, .int .i64 0, .int .i64 0, .int .i64 0, .int .i64 0, .int .i64 0, .int .i64 0, .int .i64 0, .int .i64 0, .int .i64 0, .int .i64 0, .int .i64 0, .int .i64 0, .int .i64 0, .int .i64 0] 23); (try (have HR2 := Lib.hid (And.intro (HR.out.1.below hBB) HR.out.2); clear HR; have HR := HR2; clear HR2)); (try (have HZ2 := Lib.hid (And.intro (HZ.out.1.below hBB) HZ.out.2); clear HZ; have HZ := HZ2; clear HZ2)); have HS2 := Lib.hid (HS.out.down hBB); clear HS; have HS := HS2; clear HS2 hBB; (rw [hb]); clear hb; generalize wx.alloc (.cells #[.int .i64 0, .int .i64 0, .int .i64 0, .int .i64 0, .int .i64 0, .int .i64 0, .int .i64 0, .int .i64 0, .int .i64 0, .int .i64 0, .int .i64 0, .int .i64 0, .int .i64 0, .int .i64 0, .int .i64 0, .int .i64 0, .int .i64 0, .int .i64 0, .int .i64 0, .int .i64 0, .int .i64 0, .int .i64 0, .int .i64 0, .int .i64 0] 23) = wn at *
        refine hK.out _ _ ?_ (fun hHeld => ?_)
        · exact ⟨HS.out.c.b.s, HS.out.c.b.p, HS.out.c.b.o⟩
        clear hK K
        (try simp only [Act.put, nA, nB, nC])
        exact SH17.out _ _ _ _ HS HA HR HZ
    case sp13 =>
      intro wx b10 b11 b12 HS HA HR HZ
      refine wpAnyM_oneS 4 rfl (by kernel_rfl) (fun K hK => ?_)
      go_simp
      (refine (WN.out _).mono ?_); rintro e wn ⟨rfl, hb6⟩; have HS2 := Lib.hid (HS.out.down hb6); clear HS; have HS := HS2; clear HS2; (try (have HA2 := Lib.hid (And.intro (HA.out.1.below hb6) HA.out.2); clear HA; have HA := HA2; clear HA2)); (try (have HR2 := Lib.hid (And.intro (HR.out.1.below hb6) HR.out.2); clear HR; have HR := HR2; clear HR2)); (try (have HZ2 := Lib.hid (And.intro (HZ.out.1.below hb6) HZ.out.2); clear HZ; have HZ := HZ2; clear HZ2)); clear hb6
      (try dsimp only)
      (try simp only [Act.put, nA, nB, nC])
      refine hK.out _ _ ?_ (fun hHeld => ?_)
      · exact ⟨HS.out.c.b.s, HS.out.c.b.p, HS.out.c.b.o⟩
      clear hK K
      (try simp only [Act.put, nA, nB, nC])
      exact SH17.out _ _ _ _ HS HA HR HZ
    case sp14 =>
      intro wx b10 b11 HS HA HR
      refine wpAnyM_oneS 12 rfl (by kernel_rfl) (fun K hK => ?_)
      go_simp; obtain ⟨b12, hb⟩ : ∃ x, wx.heap.size = x := ⟨_, rfl⟩; have HZ := Lib.hid (fs_res HS.out b12 hb); have hBB := (Below.refl wx.heap.size wx).alloc (Nat.le_refl _) (.cells #[.bool false, .int .i64 0, .int .i64 0] 42); (try (have HA2 := Lib.hid (And.intro (HA.out.1.below hBB) HA.out.2); clear HA; have HA := HA2; clear HA2)); (try (have HR2 := Lib.hid (And.intro (HR.out.1.below hBB) HR.out.2); clear HR; have HR := HR2; clear HR2)); have HS2 := Lib.hid (HS.out.down hBB); clear HS; have HS := HS2; clear HS2 hBB; (rw [hb]); clear hb; generalize wx.alloc (.cells #[.bool false, .int .i64 0, .int .i64 0] 42) = wn at *
      refine hK.out _ _ ?_ (fun hHeld => ?_)
      · exact ⟨HS.out.c.b.s, HS.out.c.b.p, HS.out.c.b.o⟩
      clear hK K
      (try simp only [Act.put, nA, nB, nC])
      clear hHeld
      revert HZ
      revert HR
      revert HA
      revert HS
      revert b12
      revert b11
      revert b10
      revert wn
      exact SH18.out
    case sp15 =>
      intro wx b10 b12 HS HA HZ
      refine wpAnyM_oneS 11 rfl (by kernel_rfl) (fun K hK => ?_)
      go_simp; obtain ⟨b11, hb⟩ : ∃ x, wx.heap.size = x := ⟨_, rfl⟩; have HR := Lib.hid (fs_cov HS.out b11 hb); have hBB := (Below.refl wx.heap.size wx).alloc (Nat.le_refl _) (.cells Tryz.zeroCells26 26); (try (have HA2 := Lib.hid (And.intro (HA.out.1.below hBB) HA.out.2); clear HA; have HA := HA2; clear HA2)); (try (have HZ2 := Lib.hid (And.intro (HZ.out.1.below hBB) HZ.out.2); clear HZ; have HZ := HZ2; clear HZ2)); have HS2 := Lib.hid (HS.out.down hBB); clear HS; have HS := HS2; clear HS2 hBB; (rw [hb]); clear hb; generalize wx.alloc (.cells Tryz.zeroCells26 26) = wn at *
      refine hK.out _ _ ?_ (fun hHeld => ?_)
      · exact ⟨HS.out.c.b.s, HS.out.c.b.p, HS.out.c.b.o⟩
      clear hK K
      (try simp only [Act.put, nA, nB, nC])
      exact SH18.out _ _ _ _ HS HA HR HZ
    case sp16 =>
      intro wx b11 b12 HS HR HZ
      refine wpAnyM_oneS 10 rfl (by kernel_rfl) (fun K hK => ?_)
      go_simp; obtain ⟨b10, hb⟩ : ∃ x, wx.heap.size = x := ⟨_, rfl⟩; have HA := Lib.hid (fs_st HS.out b10 hb); have hBB := (Below.refl wx.heap.size wx).alloc (Nat.le_refl _) (.cells #[.int .i64 0, .int .i64 0, .int .i64 0, .int .i64 0, .int .i64 0, .int .i64 0, .int .i64 0, .int .i64 0, .int .i64 0, .int .i64 0, .int .i64 0, .int .i64 0, .int .i64 0, .int .i64 0, .int .i64 0, .int .i64 0, .int .i64 0, .int .i64 0, .int .i64 0, .int .i64 0, .int .i64 0, .int .i64 0, .int .i64 0, .int .i64 0] 23); (try (have HR2 := Lib.hid (And.intro (HR.out.1.below hBB) HR.out.2); clear HR; have HR := HR2; clear HR2)); (try (have HZ2 := Lib.hid (And.intro (HZ.out.1.below hBB) HZ.out.2); clear HZ; have HZ := HZ2; clear HZ2)); have HS2 := Lib.hid (HS.out.down hBB); clear HS; have HS := HS2; clear HS2 hBB; (rw [hb]); clear hb; generalize wx.alloc (.cells #[.int .i64 0, .int .i64 0, .int .i64 0, .int .i64 0, .int .i64 0, .int .i64 0, .int .i64 0, .int .i64 0, .int .i64 0, .int .i64 0, .int .i64 0, .int .i64 0, .int .i64 0, .int .i64 0, .int .i64 0, .int .i64 0, .int .i64 0, .int .i64 0, .int .i64 0, .int .i64 0, .int .i64 0, .int .i64 0, .int .i64 0, .int .i64 0] 23) = wn at *
      refine hK.out _ _ ?_ (fun hHeld => ?_)
      · exact ⟨HS.out.c.b.s, HS.out.c.b.p, HS.out.c.b.o⟩
      clear hK K
      (try simp only [Act.put, nA, nB, nC])
      exact SH18.out _ _ _ _ HS HA HR HZ
    case sp17 =>
      intro wx b10 b11 b12 HS HA HR HZ
      refine wpAnyM_oneS 5 rfl (by kernel_rfl) (fun K hK => ?_)
      go_simp
      (refine (RN.out _ HS.out.c.c1 HS.out.c.f1).mono ?_); rintro e wn ⟨rfl, hu7⟩; (try (have HA2 := Lib.hid (And.intro (HA.out.1.upd hu7 (by have := HA.out.2; have := HS.out.o2; simp; omega)) HA.out.2); clear HA; have HA := HA2; clear HA2)); (try (have HR2 := Lib.hid (And.intro (HR.out.1.upd hu7 (by have := HR.out.2; have := HS.out.o2; simp; omega)) HR.out.2); clear HR; have HR := HR2; clear HR2)); (try (have HZ2 := Lib.hid (And.intro (HZ.out.1.upd hu7 (by have := HZ.out.2; have := HS.out.o2; simp; omega)) HZ.out.2); clear HZ; have HZ := HZ2; clear HZ2)); have HS2 := Lib.hid (HS.out.upd hu7); clear HS; have HS := HS2; clear HS2 hu7; (simp only [res3])
      (try dsimp only)
      (try simp only [Act.put, nA, nB, nC])
      refine hK.out _ _ ?_ (fun hHeld => ?_)
      · exact ⟨HS.out.c.b.s, HS.out.c.b.p, HS.out.c.b.o⟩
      clear hK K
      (try simp only [Act.put, nA, nB, nC])
      refine wpAnyM_take 6 (v := ?_) rfl (by kernel_rfl) (fun _ _ _ h => h) (Or.inl ⟨by rfl, ?_⟩) (by assumption) ?_
      rotate_left
      · (intro wz hSw; (try dsimp only at hSw); go_simp; (try with_reducible rfl))
      (try simp only [Act.put, nA, nB, nC])
      refine wpAnyM_take 7 (v := ?_) rfl (by kernel_rfl) (fun _ _ _ h => h) (Or.inl ⟨by rfl, ?_⟩) (by assumption) ?_
      rotate_left
      · (intro wz hSw; (try dsimp only at hSw); go_simp; (try with_reducible rfl))
      (try simp only [Act.put, nA, nB, nC])
      refine wpAnyM_take 8 (v := ?_) rfl (by kernel_rfl) (fun _ _ _ h => h) (Or.inl ⟨by rfl, ?_⟩) (by assumption) ?_
      rotate_left
      · (intro wz hSw; (try dsimp only at hSw); go_simp; (try with_reducible rfl))
      (try simp only [Act.put, nA, nB, nC])
      refine wpAnyM_take 9 (v := ?_) rfl (by kernel_rfl) (fun _ _ _ h => h) (Or.inl ⟨by rfl, ?_⟩) (by assumption) ?_
      rotate_left
      · (intro wz hSw; (try dsimp only at hSw); go_simp; (try with_reducible rfl))
      (try simp only [Act.put, nA, nB, nC])
      exact SH18.out _ _ _ _ HS HA HR HZ
    case sp18 =>
      intro wx b10 b11 b12 HS HA HR HZ
      have hHeld : (((fun w' => Blk w' w.heap.size 23 24 S ∧ Blk w' (w.heap.size + 1) 26 300 P ∧ Blk w' (w.heap.size + 1 + 1) 29 27 O)) wx) := by exact ⟨HS.out.c.b.s, HS.out.c.b.p, HS.out.c.b.o⟩
      have N1 := Lib.hid (blk_ne2 HR.out.1 HA.out.1 (by decide)); have N2 := Lib.hid (rres_ne HA.out.1 HZ.out.1 (by decide)); have N3 := Lib.hid (rres_ne HR.out.1 HZ.out.1 (by decide)); have HE := Lib.hid (HR.out.1.setRow_other (arrv 24 A) N1.out); have HZ2 := Lib.hid (HZ.out.1.row (arrv 24 A) (fun e => N2.out e.symm)); have HS2 := Lib.hid (HS.out.row HA.out.2 (arrv 24 A)); clear HS; have HS := HS2; clear HS2; have HB := Lib.hid (HA.out.1.setRow A)
      clear hHeld
      refine wpAnyM_doneS 13 rfl (by kernel_rfl) (by rfl) (run_store_row 23 (.tmp 12) (.tmp 37) rfl _ rfl rfl HA.out.1 ist) ?_ (fun hHeld => ?_)
      · exact ⟨HS.out.c.b.s, HS.out.c.b.p, HS.out.c.b.o⟩
      (try simp only [Act.put])
      have HC := Lib.hid (HE.out.setRow Q); have HZ3 := HZ2.out.row (arrv 300 Q) (fun e => N3.out e.symm); have HB2 := Lib.hid (HB.out.setRow_other (arrv 300 Q) (fun e => N1.out e.symm)); have HS2 := Lib.hid (HS.out.row HR.out.2 (arrv 300 Q)); clear HS; have HS := HS2; clear HS2; obtain ⟨⟨v0, v1, v2⟩, y0, y1, y2⟩ := HZ3.c
      clear hHeld
      refine wpAnyM_doneS 14 rfl (by kernel_rfl) (by rfl) (run_store_row 26 (.tmp 13) (.tmp 38) rfl _ rfl rfl HE.out icov) ?_ (fun hHeld => ?_)
      · exact ⟨HS.out.c.b.s, HS.out.c.b.p, HS.out.c.b.o⟩
      (try simp only [Act.put])
      refine wpAnyM_one 15 rfl (by kernel_rfl) (fun K hK => ?_)
      go_simp
      refine hK.out _ _ (.inl (by kernel_rfl)) (fun _ => ?_)
      clear hK K
      (try simp only [Act.put, nA, nB, nC])
      refine wpAnyM_done (by kernel_rfl) ?_ _
      (go_wp2_with fail; go_meet; exact ⟨_, _, _, rfl, rfl, rfl, Lib.hid ⟨((HS.out.cell (p := ⟨b12, 0, none⟩) HZ.out.2 _).cell (p := ⟨b12, 1, none⟩) HZ.out.2 _).cell (p := ⟨b12, 2, none⟩) HZ.out.2 _, ((HB2.out.other N2.out _).other N2.out _).other N2.out _, ((HC.out.other N3.out _).other N3.out _).other N3.out _, HZ3.set3 T Y X⟩⟩)
  case rest =>
    obtain ⟨ta, tq, tr, rfl, rfl, rfl, HB⟩ := hcut
    clear HS RN WN
    rename World => wx
    have HD := Lib.hid (And.intro HB.out.1.drew (And.intro (show Blk wx.drew ta 23 24 A from HB.out.2.1) (And.intro (show Blk wx.drew tq 26 300 Q from HB.out.2.2.1) (show RRes wx.drew tr T Y X from HB.out.2.2.2))))
    clear HB
    go_upto_region 7 with fail
    refine wp_region_M (fun w' => Blk w' ab 23 24 A ∧ Blk w' ta 23 24 A ∧ Blk w' (ab + 1) 26 300 Q ∧ Blk w' tq 26 300 Q ∧ Res w' (ab + 1 + 1) T Y X ∧ RRes w' tr T Y X ∧ w'.cell? ⟨bc, 0, none⟩ = some (.bool FL) ∧ w'.cell? ⟨bc + 1, 0, none⟩ = some (.bool FL)) 25 (by kernel_rfl) ?_ (fun hHeld => ?_)
    · exact ⟨HD.out.1.a, HD.out.2.1, HD.out.1.q, HD.out.2.2.1, HD.out.1.r, HD.out.2.2.2, HD.out.1.c.c0, HD.out.1.c.c1⟩
    refine wpAnyM_take 0 (v := ?_) rfl (by kernel_rfl) (fun _ _ _ h => h) (Or.inl ⟨by rfl, ?_⟩) (by assumption) ?_
    rotate_left
    · (intro wz hSw; refine Eq.trans (run_load_row 23 (.tmp 9) (by rfl) (ab) (by rfl) _ _ _ _ (hSw.1) Tryz.underlying23 rfl (ist.trans (by rw [arrv_size]))) ?_; with_reducible rfl)
    (try simp only [Act.put, nA, nB, nC])
    refine wpAnyM_take 1 (v := ?_) rfl (by kernel_rfl) (fun _ _ _ h => h) (Or.inl ⟨by rfl, ?_⟩) (by assumption) ?_
    rotate_left
    · (intro wz hSw; refine Eq.trans (run_load_row 23 (.tmp 12) (by rfl) (ta) (by rfl) _ _ _ _ (hSw.2.1) Tryz.underlying23 rfl (ist.trans (by rw [arrv_size]))) ?_; with_reducible rfl)
    (try simp only [Act.put, nA, nB, nC])
    refine wpAnyM_take 2 (v := ?_) rfl (by kernel_rfl) (fun _ _ _ h => h) (Or.inl ⟨by rfl, ?_⟩) (by assumption) ?_
    rotate_left
    · (intro wz hSw; refine Eq.trans (run_op_eqlVec Tryz.underlying23 (by kernel_rfl) (.tmp 40) (.tmp 41) (by rfl) (by rfl) (by rfl) (eqB_iff.2 fun _ _ => rfl)) ?_; with_reducible rfl)
    (try simp only [Act.put, nA, nB, nC])
    refine wpAnyM_take 3 (v := ?_) rfl (by kernel_rfl) (fun _ _ _ h => h) (Or.inl ⟨by rfl, ?_⟩) (by assumption) ?_
    rotate_left
    · (intro wx hSw; (try dsimp only at hSw); go_simp; (try with_reducible rfl))
    (try simp only [Act.put, nA, nB, nC])
    first | (refine wpAnyM_take 4 (v := ?_) rfl (by kernel_rfl) (fun _ _ _ h => h) (Or.inl ⟨by rfl, ?_⟩) (by assumption) ?_; rotate_left; focus ((intro wz hSw; refine Eq.trans (run_load_row 26 (.tmp 10) (by rfl) (ab + 1) (by rfl) _ _ _ _ (hSw.2.2.1) Tryz.underlying26 rfl (icov.trans (by rw [arrv_size]))) ?_; with_reducible rfl))) | (refine wpAnyM_take 4 rfl (by kernel_rfl) (fun _ _ _ h => h) (Or.inr ⟨by rfl, rfl⟩) (by assumption) ?_)
    (try simp only [Act.put, nA, nB, nC])
    first | (refine wpAnyM_take 5 (v := ?_) rfl (by kernel_rfl) (fun _ _ _ h => h) (Or.inl ⟨by rfl, ?_⟩) (by assumption) ?_; rotate_left; focus ((intro wz hSw; refine Eq.trans (run_load_row 26 (.tmp 13) (by rfl) (tq) (by rfl) _ _ _ _ (hSw.2.2.2.1) Tryz.underlying26 rfl (icov.trans (by rw [arrv_size]))) ?_; with_reducible rfl))) | (refine wpAnyM_take 5 rfl (by kernel_rfl) (fun _ _ _ h => h) (Or.inr ⟨by rfl, rfl⟩) (by assumption) ?_)
    (try simp only [Act.put, nA, nB, nC])
    first | (refine wpAnyM_take 6 (v := ?_) rfl (by kernel_rfl) (fun _ _ _ h => h) (Or.inl ⟨by rfl, ?_⟩) (by assumption) ?_; rotate_left; focus ((intro wz hSw; refine Eq.trans (run_op_eqlCov (.tmp 44) (.tmp 45) (by rfl) (by rfl) (by rfl) (covB_self Q)) ?_; with_reducible rfl))) | (refine wpAnyM_take 6 rfl (by kernel_rfl) (fun _ _ _ h => h) (Or.inr ⟨by rfl, rfl⟩) (by assumption) ?_)
    (try simp only [Act.put, nA, nB, nC])
    refine wpAnyM_take 7 (v := ?_) rfl (by kernel_rfl) (fun _ _ _ h => h) (Or.inl ⟨by rfl, ?_⟩) (by assumption) ?_
    rotate_left
    · (intro wx hSw; (try dsimp only at hSw); go_simp; (try with_reducible rfl))
    (try simp only [Act.put, nA, nB, nC])
    refine wpAnyM_take 8 (v := ?_) rfl (by kernel_rfl) (fun _ _ _ h => h) (Or.inl ⟨by rfl, ?_⟩) (by assumption) ?_
    rotate_left
    · (intro wx hSw; (try dsimp only at hSw); go_simp; (try with_reducible rfl))
    (try simp only [Act.put, nA, nB, nC])
    first | (refine wpAnyM_take 9 (v := ?_) rfl (by kernel_rfl) (fun _ _ _ h => h) (Or.inl ⟨by rfl, ?_⟩) (by assumption) ?_; rotate_left; focus ((intro wz hSw; refine Eq.trans (run_load_res (.tmp 11) (by rfl) (ab + 1 + 1) 0 (by rfl) T Y X hSw.2.2.2.2.1.c.1.1 hSw.2.2.2.2.1.c.1.2.1 hSw.2.2.2.2.1.c.1.2.2) ?_; with_reducible rfl))) | (refine wpAnyM_take 9 rfl (by kernel_rfl) (fun _ _ _ h => h) (Or.inr ⟨by rfl, rfl⟩) (by assumption) ?_)
    (try simp only [Act.put, nA, nB, nC])
    first | (refine wpAnyM_take 10 (v := ?_) rfl (by kernel_rfl) (fun _ _ _ h => h) (Or.inl ⟨by rfl, ?_⟩) (by assumption) ?_; rotate_left; focus ((intro wz hSw; refine Eq.trans (run_load_rres (.tmp 14) (by rfl) tr (by rfl) T Y X hSw.2.2.2.2.2.1) ?_; with_reducible rfl))) | (refine wpAnyM_take 10 rfl (by kernel_rfl) (fun _ _ _ h => h) (Or.inr ⟨by rfl, rfl⟩) (by assumption) ?_)
    (try simp only [Act.put, nA, nB, nC])
    first | (refine wpAnyM_take 11 (v := ?_) rfl (by kernel_rfl) (fun _ _ _ h => h) (Or.inl ⟨by rfl, ?_⟩) (by assumption) ?_; rotate_left; focus ((intro wz hSw; refine Eq.trans (run_op_eqlRes (.tmp 49) (.tmp 50) (by rfl) (by rfl) (by rfl)) ?_; with_reducible rfl))) | (refine wpAnyM_take 11 rfl (by kernel_rfl) (fun _ _ _ h => h) (Or.inr ⟨by rfl, rfl⟩) (by assumption) ?_)
    (try simp only [Act.put, nA, nB, nC])
    refine wpAnyM_take 12 (v := ?_) rfl (by kernel_rfl) (fun _ _ _ h => h) (Or.inl ⟨by rfl, ?_⟩) (by assumption) ?_
    rotate_left
    · (intro wx hSw; (try dsimp only at hSw); go_simp; (try with_reducible rfl))
    (try simp only [Act.put, nA, nB, nC])
    refine wpAnyM_take 13 (v := ?_) rfl (by kernel_rfl) (fun _ _ _ h => h) (Or.inl ⟨by rfl, ?_⟩) (by assumption) ?_
    rotate_left
    · (intro wx hSw; (try dsimp only at hSw); go_simp; (try with_reducible rfl))
    (try simp only [Act.put, nA, nB, nC])
    first | (refine wpAnyM_take 14 (v := ?_) rfl (by kernel_rfl) (fun _ _ _ h => h) (Or.inl ⟨by rfl, ?_⟩) (by assumption) ?_; rotate_left; focus ((intro wx hSw; (try dsimp only at hSw); go_simp; (try with_reducible rfl)))) | (refine wpAnyM_take 14 rfl (by kernel_rfl) (fun _ _ _ h => h) (Or.inr ⟨by rfl, rfl⟩) (by assumption) ?_)
    (try simp only [Act.put, nA, nB, nC])
    first | (refine wpAnyM_take 15 (v := ?_) rfl (by kernel_rfl) (fun _ _ _ h => h) (Or.inl ⟨by rfl, ?_⟩) (by assumption) ?_; rotate_left; focus ((intro wx hSw; (try dsimp only at hSw); go_simp; (try with_reducible rfl)))) | (refine wpAnyM_take 15 rfl (by kernel_rfl) (fun _ _ _ h => h) (Or.inr ⟨by rfl, rfl⟩) (by assumption) ?_)
    (try simp only [Act.put, nA, nB, nC])
    first | (refine wpAnyM_take 16 (v := ?_) rfl (by kernel_rfl) (fun _ _ _ h => h) (Or.inl ⟨by rfl, ?_⟩) (by assumption) ?_; rotate_left; focus ((intro wx hSw; (try dsimp only at hSw); go_simp; (try with_reducible rfl)))) | (refine wpAnyM_take 16 rfl (by kernel_rfl) (fun _ _ _ h => h) (Or.inr ⟨by rfl, rfl⟩) (by assumption) ?_)
    (try simp only [Act.put, nA, nB, nC])
    first | (refine wpAnyM_take 17 (v := ?_) rfl (by kernel_rfl) (fun _ _ _ h => h) (Or.inl ⟨by rfl, ?_⟩) (by assumption) ?_; rotate_left; focus ((intro wz hSw; obtain ⟨s1, s2, s3, s4, s5, s6, s7, s8⟩ := hSw; clear s1 s2 s3 s4 s5 s6; go_simp; (try with_reducible rfl)))) | (refine wpAnyM_take 17 rfl (by kernel_rfl) (fun _ _ _ h => h) (Or.inr ⟨by rfl, rfl⟩) (by assumption) ?_)
    (try simp only [Act.put, nA, nB, nC])
    first | (refine wpAnyM_take 18 (v := ?_) rfl (by kernel_rfl) (fun _ _ _ h => h) (Or.inl ⟨by rfl, ?_⟩) (by assumption) ?_; rotate_left; focus ((intro wx hSw; (try dsimp only at hSw); go_simp; (try with_reducible rfl)))) | (refine wpAnyM_take 18 rfl (by kernel_rfl) (fun _ _ _ h => h) (Or.inr ⟨by rfl, rfl⟩) (by assumption) ?_)
    (try simp only [Act.put, nA, nB, nC])
    first | (refine wpAnyM_take 19 (v := ?_) rfl (by kernel_rfl) (fun _ _ _ h => h) (Or.inl ⟨by rfl, ?_⟩) (by assumption) ?_; rotate_left; focus ((intro wx hSw; (try dsimp only at hSw); go_simp; (try with_reducible rfl)))) | (refine wpAnyM_take 19 rfl (by kernel_rfl) (fun _ _ _ h => h) (Or.inr ⟨by rfl, rfl⟩) (by assumption) ?_)
    (try simp only [Act.put, nA, nB, nC])
    first | (refine wpAnyM_take 20 (v := ?_) rfl (by kernel_rfl) (fun _ _ _ h => h) (Or.inl ⟨by rfl, ?_⟩) (by assumption) ?_; rotate_left; focus ((intro wx hSw; (try dsimp only at hSw); go_simp; (try with_reducible rfl)))) | (refine wpAnyM_take 20 rfl (by kernel_rfl) (fun _ _ _ h => h) (Or.inr ⟨by rfl, rfl⟩) (by assumption) ?_)
    (try simp only [Act.put, nA, nB, nC])
    first | (refine wpAnyM_take 21 (v := ?_) rfl (by kernel_rfl) (fun _ _ _ h => h) (Or.inl ⟨by rfl, ?_⟩) (by assumption) ?_; rotate_left; focus ((intro wx hSw; (try dsimp only at hSw); go_simp; (try with_reducible rfl)))) | (refine wpAnyM_take 21 rfl (by kernel_rfl) (fun _ _ _ h => h) (Or.inr ⟨by rfl, rfl⟩) (by assumption) ?_)
    (try simp only [Act.put, nA, nB, nC])
    first | (refine wpAnyM_take 22 (v := ?_) rfl (by kernel_rfl) (fun _ _ _ h => h) (Or.inl ⟨by rfl, ?_⟩) (by assumption) ?_; rotate_left; focus ((intro wz hSw; obtain ⟨s1, s2, s3, s4, s5, s6, s7, s8⟩ := hSw; clear s1 s2 s3 s4 s5 s6; go_simp; (try with_reducible rfl)))) | (refine wpAnyM_take 22 rfl (by kernel_rfl) (fun _ _ _ h => h) (Or.inr ⟨by rfl, rfl⟩) (by assumption) ?_)
    (try simp only [Act.put, nA, nB, nC])
    first | (refine wpAnyM_take 23 (v := ?_) rfl (by kernel_rfl) (fun _ _ _ h => h) (Or.inl ⟨by rfl, ?_⟩) (by assumption) ?_; rotate_left; focus ((intro wx hSw; (try dsimp only at hSw); go_simp; (try with_reducible rfl)))) | (refine wpAnyM_take 23 rfl (by kernel_rfl) (fun _ _ _ h => h) (Or.inr ⟨by rfl, rfl⟩) (by assumption) ?_)
    (try simp only [Act.put, nA, nB, nC])
    refine wpAnyM_take 24 (v := ?_) rfl (by kernel_rfl) (fun _ _ _ h => h) (Or.inl ⟨by rfl, ?_⟩) (by assumption) ?_
    rotate_left
    · (intro wx hSw; (try dsimp only at hSw); go_simp; (try with_reducible rfl))
    (try simp only [Act.put, nA, nB, nC])
    refine wpAnyM_one 25 rfl (by kernel_rfl) (fun K hK => ?_)
    go_simp
    refine hK.out _ _ (.inl (by kernel_rfl)) (fun _ => ?_)
    clear hK K
    (try simp only [Act.put, nA, nB, nC])
    refine wpAnyM_done (by kernel_rfl) ?_ _
    go_wp2_with fail
    go_ret
    exact ⟨rfl, HD.out.1.c.b.below⟩
end Go.Proofs.YtiajjiphknlldaaGreat
