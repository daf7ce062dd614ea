/- Contracts of the program's functions and plain laws, part 15: they hold for all arguments. -/
import Derived.Test.YtiajjiphknlldaaGreatQ14
import Derived.Test.YtiajjiphknlldaaGreatQ06
/- The reference's prepared: what an update reckons with. -/
namespace Go.Proofs.YtiajjiphknlldaaGreat
open Go.RowKit
set_option maxRecDepth 100000
theorem z25 : (#[.int .i64 0, .int .i64 0, .int .i64 0, .int .i64 0, .int .i64 0, .int .i64 0, .int .i64 0, .int .i64 0, .int .i64 0, .int .i64 0, .int .i64 0, .int .i64 0, .int .i64 0, .int .i64 0, .int .i64 0, .int .i64 0, .int .i64 0, .int .i64 0, .int .i64 0, .int .i64 0, .int .i64 0, .int .i64 0, .int .i64 0, .int .i64 0, .int .i64 0] : Array Value) = arrv 25 (fun _ => 0) := by kernel_rfl
theorem ia25 : (Tryz.prog.info? 89).map (·.size) = some 25 := by kernel_rfl
theorem colu : Tryz.prog.underlying 22 = some (.array (Tryz.prog.arrayLen 22) (Tryz.prog.elem 22)) := by kernel_rfl
theorem collen : Tryz.prog.arrayLen 22 = 24 := by kernel_rfl
open Go in
/-- h[:n] of an array of 24. -/
theorem run_slice_col {o : Oper} {ev : Operand → Value} {w : World} (x y : Operand) (ho : o.op = .slice 22 x none (some y) none) (g : Nat) (hx : ev x = .pointer (some ⟨g, 0, none⟩))
    (z : Int) (hy : ev y = .int .i64 z) (n : Nat) (hz : z = n) (hn : n ≤ 24) : (execOp ev o).run Tryz.prog w = .ok (.value (.slice (some ⟨g, 0, none⟩) n 24)) w := by
  have h := run_sliceAt_array_h (P := Tryz.prog) w 22 ⟨g, 0, none⟩ colu .i64 z (by omega) (by rw [collen]; omega)
  subst hz
  unfold execOp
  simp only [ho, hx, hy, Option.map_some, Option.map_none]
  rw [Sem.run_bind, h]
  have hs : (sizeOf (Tryz.prog.elem 22)).run Tryz.prog w = .ok 1 w := by rw [show Tryz.prog.elem 22 = 2 from by kernel_rfl]; simp [go_sem]
  rw [hs, collen]
  simp [slicedAt, go_sem]
/-- The blocks of the call. -/
structure PrA (c : Addr) (h : Bool) (P H : Nat → Int) (w wr : World) : Prop where
  upd : Upd c h w wr
  pB : Blk wr w.heap.size 26 300 P
  hB : Blk wr (w.heap.size + 1) 22 24 H
  z0 : Blk wr (w.heap.size + 1 + 1) 26 300 (fun _ => 0)
  z1 : Blk wr (w.heap.size + 1 + 1 + 1) 22 24 (fun _ => 0)
  z2 : Blk wr (w.heap.size + 1 + 1 + 1 + 1) 22 24 (fun _ => 0)
  z3 : Blk wr (w.heap.size + 1 + 1 + 1 + 1 + 1) 89 25 (fun _ => 0)
theorem PrA.upd' {c : Addr} {h h' : Bool} {P H : Nat → Int} {w wr w' : World} (s : PrA c h P H w wr) (hc : c.block < w.heap.size) (u : Upd c h' wr w') : PrA c h' P H w w' :=
  ⟨s.upd.trans u, s.pB.upd u (by omega), s.hB.upd u (by omega), s.z0.upd u (by omega), s.z1.upd u (by omega), s.z2.upd u (by omega), s.z3.upd u (by omega)⟩
theorem PrA.below {c : Addr} {h : Bool} {P H : Nat → Int} {w wr w' : World} (s : PrA c h P H w wr) (b : Below wr.heap.size wr w') : PrA c h P H w w' :=
  ⟨s.upd.then b, s.pB.below b, s.hB.below b, s.z0.below b, s.z1.below b, s.z2.below b, s.z3.below b⟩
theorem PrA.other {c : Addr} {h : Bool} {P H : Nat → Int} {w wr : World} (s : PrA c h P H w wr) {b o : Nat} (hb : w.heap.size + 5 < b) (v : Value) : PrA c h P H w (wr.setCell ⟨b, o, none⟩ v) :=
  ⟨s.upd.setCell (by simp; omega) _, s.pB.other (by simp; omega) _, s.hB.other (by simp; omega) _, s.z0.other (by simp; omega) _, s.z1.other (by simp; omega) _, s.z2.other (by simp; omega) _, s.z3.other (by simp; omega) _⟩
theorem PrA.setH {c : Addr} {h : Bool} {P H : Nat → Int} {w wr : World} (s : PrA c h P H w wr) (o : Nat) (v : Int) : PrA c h P (Go.Proofs.YtiajjiphknlldaaGreat.upd H o v) w (wr.setCell ⟨w.heap.size + 1, o, none⟩ (.int .i64 v)) :=
  ⟨s.upd.setCell (by simp) _, s.pB.other (by simp) _, s.hB.set _ _, s.z0.other (by simp) _, s.z1.other (by simp; omega) _, s.z2.other (by simp; omega) _, s.z3.other (by simp; omega) _⟩
theorem PrA.congH {c : Addr} {h : Bool} {P H H' : Nat → Int} {w wr : World} (s : PrA c h P H w wr) (hH : ∀ i, i < 24 → H i = H' i) : PrA c h P H' w wr :=
  ⟨s.upd, s.pB, s.hB.congr hH, s.z0, s.z1, s.z2, s.z3⟩
structure PrB (c : Addr) (h : Bool) (P H : Nat → Int) (fb vb ab : Nat) (F V A : Nat → Int) (w wr : World) : Prop where
  a : PrA c h P H w wr
  fB : Blk wr fb 22 24 F
  vB : Blk wr vb 22 24 V
  aB : Blk wr ab 89 25 A
  ord : w.heap.size + 5 < fb ∧ fb < vb ∧ vb < ab
theorem PrB.upd' {c : Addr} {h h' : Bool} {P H : Nat → Int} {fb vb ab : Nat} {F V A : Nat → Int} {w wr w' : World} (s : PrB c h P H fb vb ab F V A w wr) (hc : c.block < w.heap.size) (u : Upd c h' wr w') : PrB c h' P H fb vb ab F V A w w' :=
  ⟨s.a.upd' hc u, s.fB.upd u (by have := s.ord; omega), s.vB.upd u (by have := s.ord; omega), s.aB.upd u (by have := s.ord; omega), s.ord⟩
theorem PrB.below {c : Addr} {h : Bool} {P H : Nat → Int} {fb vb ab : Nat} {F V A : Nat → Int} {w wr w' : World} (s : PrB c h P H fb vb ab F V A w wr) (b : Below wr.heap.size wr w') : PrB c h P H fb vb ab F V A w w' :=
  ⟨s.a.below b, s.fB.below b, s.vB.below b, s.aB.below b, s.ord⟩
theorem PrB.other {c : Addr} {h : Bool} {P H : Nat → Int} {fb vb ab : Nat} {F V A : Nat → Int} {w wr : World} (s : PrB c h P H fb vb ab F V A w wr) {b o : Nat} (hb : ab < b) (v : Value) : PrB c h P H fb vb ab F V A w (wr.setCell ⟨b, o, none⟩ v) :=
  ⟨s.a.other (by have := s.ord; omega) v, s.fB.other (by have := s.ord; simp; omega) _, s.vB.other (by have := s.ord; simp; omega) _, s.aB.other (by simp; omega) _, s.ord⟩
theorem PrB.setF {c : Addr} {h : Bool} {P H : Nat → Int} {fb vb ab : Nat} {F V A : Nat → Int} {w wr : World} (s : PrB c h P H fb vb ab F V A w wr) (o : Nat) (v : Int) : PrB c h P H fb vb ab (upd F o v) V A w (wr.setCell ⟨fb, o, none⟩ (.int .i64 v)) :=
  ⟨s.a.other (by have := s.ord; omega) _, s.fB.set _ _, s.vB.other (by have := s.ord; simp; omega) _, s.aB.other (by have := s.ord; simp; omega) _, s.ord⟩
theorem PrB.setV {c : Addr} {h : Bool} {P H : Nat → Int} {fb vb ab : Nat} {F V A : Nat → Int} {w wr : World} (s : PrB c h P H fb vb ab F V A w wr) (o : Nat) (v : Int) : PrB c h P H fb vb ab F (upd V o v) A w (wr.setCell ⟨vb, o, none⟩ (.int .i64 v)) :=
  ⟨s.a.other (by have := s.ord; omega) _, s.fB.other (by have := s.ord; simp; omega) _, s.vB.set _ _, s.aB.other (by have := s.ord; simp; omega) _, s.ord⟩
theorem PrB.setA {c : Addr} {h : Bool} {P H : Nat → Int} {fb vb ab : Nat} {F V A : Nat → Int} {w wr : World} (s : PrB c h P H fb vb ab F V A w wr) (o : Nat) (v : Int) : PrB c h P H fb vb ab F V (upd A o v) w (wr.setCell ⟨ab, o, none⟩ (.int .i64 v)) :=
  ⟨s.a.other (by have := s.ord; omega) _, s.fB.other (by have := s.ord; simp; omega) _, s.vB.other (by have := s.ord; simp; omega) _, s.aB.set _ _, s.ord⟩
theorem PrB.cong {c : Addr} {h : Bool} {P H : Nat → Int} {fb vb ab : Nat} {F V A F' V' A' : Nat → Int} {w wr : World} (s : PrB c h P H fb vb ab F V A w wr) (hF : ∀ i, i < 24 → F i = F' i) (hV : ∀ i, i < 24 → V i = V' i) (hA : ∀ i, i < 25 → A i = A' i) : PrB c h P H fb vb ab F' V' A' w wr :=
  ⟨s.a, s.fB.congr hF, s.vB.congr hV, s.aB.congr hA, s.ord⟩
def fS' (P S : Nat → Int) (j : Nat) : Nat → Int := fun x => if x < j then bkF P S x else 0
def vS' (P S : Nat → Int) (j : Nat) : Nat → Int := fun x => if x < j then bkV P S x else 0
def aS' (P S : Nat → Int) (R : Int) (j : Nat) : Nat → Int := fun x => if x ≤ j then bkA P S R x else 0
open Go in
/-- The results of a function that gives four rows. -/
theorem results_rows4 {P : Program} {fn : Func} {p0 p1 p2 p3 : Tmp} {y0 y1 y2 y3 : TypeId} (h : fn.results = #[.cell p0 y0, .cell p1 y1, .cell p2 y2, .cell p3 y3]) (tmps : Array Value) (w : World) (g0 g1 g2 g3 : Nat) (t0 t1 t2 t3 : TypeId) (c0 c1 c2 c3 : Array Value) (r0 r1 r2 r3 : Nat × Nat) (d0 d1 d2 d3 : TypeDesc)
    (q0 : tmps.getD p0 undef = .pointer (some ⟨g0, 0, none⟩)) (k0 : w.heap[g0]? = some (.cells c0 t0 r0)) (u0 : P.underlying y0 = some d0) (e0 : (match d0 with | .struct _ | .array _ _ => true | _ => false) = true) (i0 : (P.info? y0).map (·.size) = some c0.size)
    (q1 : tmps.getD p1 undef = .pointer (some ⟨g1, 0, none⟩)) (k1 : w.heap[g1]? = some (.cells c1 t1 r1)) (u1 : P.underlying y1 = some d1) (e1 : (match d1 with | .struct _ | .array _ _ => true | _ => false) = true) (i1 : (P.info? y1).map (·.size) = some c1.size)
    (q2 : tmps.getD p2 undef = .pointer (some ⟨g2, 0, none⟩)) (k2 : w.heap[g2]? = some (.cells c2 t2 r2)) (u2 : P.underlying y2 = some d2) (e2 : (match d2 with | .struct _ | .array _ _ => true | _ => false) = true) (i2 : (P.info? y2).map (·.size) = some c2.size)
    (q3 : tmps.getD p3 undef = .pointer (some ⟨g3, 0, none⟩)) (k3 : w.heap[g3]? = some (.cells c3 t3 r3)) (u3 : P.underlying y3 = some d3) (e3 : (match d3 with | .struct _ | .array _ _ => true | _ => false) = true) (i3 : (P.info? y3).map (·.size) = some c3.size) :
    (results fn tmps).run P w = .ok (.tuple #[.agg c0, .agg c1, .agg c2, .agg c3]) w := by
  have f0 : tmps[p0]?.getD undef = .pointer (some ⟨g0, 0, none⟩) := by simpa using q0
  have f1 : tmps[p1]?.getD undef = .pointer (some ⟨g1, 0, none⟩) := by simpa using q1
  have f2 : tmps[p2]?.getD undef = .pointer (some ⟨g2, 0, none⟩) := by simpa using q2
  have f3 : tmps[p3]?.getD undef = .pointer (some ⟨g3, 0, none⟩) := by simpa using q3
  simp [results, h, f0, f1, f2, f3, asAddr, run_loadVar_row w g0 t0 y0 c0 r0 d0 k0 u0 e0 i0, run_loadVar_row w g1 t1 y1 c1 r1 d1 k1 u1 e1 i1, run_loadVar_row w g2 t2 y2 c2 r2 d2 k2 u2 e2 i2, run_loadVar_row w g3 t3 y3 c3 r3 d3 k3 u3 e3 i3]
theorem pr_flag {p h : Nat → Int} {r FV VV AV MV : Int} {H0 HJ FH VH MH : Bool} {j : Nat} (h0 : (H0 || orB (bkS p h r) j) = HJ) (h1 : dotV 30 h (colF p j) (j + 1) = FV) (f1 : dotH 30 h (colF p j) (j + 1) = FH) (h2 : mulV (p (276 + j)) FV 30 = VV) (f2 : mulH (p (276 + j)) FV 30 = VH)
    (h3 : bkA p h r j = AV) (h4 : mulV FV VV 30 = MV) (f4 : mulH FV VV 30 = MH) : (HJ || FH || VH || MH || addH AV MV) = (H0 || orB (bkS p h r) (j + 1)) ∧ bkF p h j = FV ∧ bkV p h j = VV ∧ bkA p h r (j + 1) = addV AV MV := by
  have eF : bkF p h j = FV := h1
  have eV : bkV p h j = VV := by rw [← h2, ← eF]; rfl
  have gF : bkFH p h j = FH := f1
  have gV : bkVH p h j = VH := by rw [← f2, ← eF]; rfl
  have gA : bkAH p h r j = (MH || addH AV MV) := by rw [← f4, ← h3, ← h4, ← eV, ← eF]; rfl
  refine ⟨?_, eF, eV, ?_⟩
  · rw [← h0]
    simp only [orB, bkS, gF, gV, gA, Bool.or_assoc]
  · rw [← h3, ← h4, ← eV, ← eF]; rfl
/-- The four rows that are told. -/
theorem prep_rows {c : Addr} {h : Bool} {P H : Nat → Int} {fb vb ab : Nat} {F V A : Nat → Int} {w x : World} (s : PrB c h P H fb vb ab F V A w x) :
    (Blk x w.heap.size 26 300 P ∧ Blk x fb 22 24 F ∧ Blk x vb 22 24 V ∧ Blk x ab 89 25 A) ∧
    (∀ (X1 : World), X1 = x.setRow (w.heap.size + 1 + 1) (arrv 300 P) → (Blk X1 w.heap.size 26 300 P ∧ Blk X1 fb 22 24 F ∧ Blk X1 vb 22 24 V ∧ Blk X1 ab 89 25 A) ∧ Blk X1 (w.heap.size + 1 + 1 + 1) 22 24 (fun _ => 0) ∧
      ∀ (X2 : World), X2 = X1.setRow (w.heap.size + 1 + 1 + 1) (arrv 24 F) → (Blk X2 w.heap.size 26 300 P ∧ Blk X2 fb 22 24 F ∧ Blk X2 vb 22 24 V ∧ Blk X2 ab 89 25 A) ∧ Blk X2 (w.heap.size + 1 + 1 + 1 + 1) 22 24 (fun _ => 0) ∧
        ∀ (X3 : World), X3 = X2.setRow (w.heap.size + 1 + 1 + 1 + 1) (arrv 24 V) → (Blk X3 w.heap.size 26 300 P ∧ Blk X3 fb 22 24 F ∧ Blk X3 vb 22 24 V ∧ Blk X3 ab 89 25 A) ∧ Blk X3 (w.heap.size + 1 + 1 + 1 + 1 + 1) 89 25 (fun _ => 0) ∧
          ∀ (X4 : World), X4 = X3.setRow (w.heap.size + 1 + 1 + 1 + 1 + 1) (arrv 25 A) → (Blk X4 (w.heap.size + 1 + 1) 26 300 P ∧ Blk X4 (w.heap.size + 1 + 1 + 1) 22 24 F ∧ Blk X4 (w.heap.size + 1 + 1 + 1 + 1) 22 24 V ∧ Blk X4 (w.heap.size + 1 + 1 + 1 + 1 + 1) 89 25 A) ∧ Upd c h w X4) := by
  obtain ⟨a, fB, vB, aB, o⟩ := s
  refine ⟨⟨a.pB, fB, vB, aB⟩, ?_⟩
  rintro X1 rfl
  refine ⟨⟨a.pB.setRow_other _ (by omega), fB.setRow_other _ (by omega), vB.setRow_other _ (by omega), aB.setRow_other _ (by omega)⟩, a.z1.setRow_other _ (by omega), ?_⟩
  rintro X2 rfl
  refine ⟨⟨(a.pB.setRow_other _ (by omega)).setRow_other _ (by omega), (fB.setRow_other _ (by omega)).setRow_other _ (by omega), (vB.setRow_other _ (by omega)).setRow_other _ (by omega), (aB.setRow_other _ (by omega)).setRow_other _ (by omega)⟩, (a.z2.setRow_other _ (by omega)).setRow_other _ (by omega), ?_⟩
  rintro X3 rfl
  refine ⟨⟨((a.pB.setRow_other _ (by omega)).setRow_other _ (by omega)).setRow_other _ (by omega), ((fB.setRow_other _ (by omega)).setRow_other _ (by omega)).setRow_other _ (by omega), ((vB.setRow_other _ (by omega)).setRow_other _ (by omega)).setRow_other _ (by omega), ((aB.setRow_other _ (by omega)).setRow_other _ (by omega)).setRow_other _ (by omega)⟩, ((a.z3.setRow_other _ (by omega)).setRow_other _ (by omega)).setRow_other _ (by omega), ?_⟩
  rintro X4 rfl
  refine ⟨⟨(((a.z0.setRow _).setRow_other _ (by omega)).setRow_other _ (by omega)).setRow_other _ (by omega), (((a.z1.setRow_other _ (by omega)).setRow _).setRow_other _ (by omega)).setRow_other _ (by omega), (((a.z2.setRow_other _ (by omega)).setRow_other _ (by omega)).setRow _).setRow_other _ (by omega), (((a.z3.setRow_other _ (by omega)).setRow_other _ (by omega)).setRow_other _ (by omega)).setRow _⟩, ?_⟩
  exact (((a.upd.then' (below_row (Below.refl _ _) (by omega) _)).then' (below_row (Below.refl _ _) (by omega) _)).then' (below_row (Below.refl _ _) (by omega) _)).then' (below_row (Below.refl _ _) (by omega) _)
end Go.Proofs.YtiajjiphknlldaaGreat
/- The reference's prepared: the walk. -/
namespace Go.Proofs.YtiajjiphknlldaaGreat
open Go.RowKit
set_option maxRecDepth 100000
set_option maxHeartbeats 16000000 in
theorem rprep_any (c : Addr) (h : Bool) (p H : Nat → Int) (r : Int) (w : World) (hc : w.cell? c = some (.bool h)) (hf : w.frozen? c = false) :
    Calls Tryz.prog 50 #[.pointer (some c), .agg (arrv 300 p), .agg (arrv 24 H), .int .i64 r] w fun e w' =>
      e = .returned (.tuple #[.agg (arrv 300 (condF p)), .agg (arrv 24 (bkF (condF p) (satS H 24))), .agg (arrv 24 (bkV (condF p) (satS H 24))), .agg (arrv 25 (bkA (condF p) (satS H 24) (varV r)))]) ∧ Upd c (h || lkH p H r) w w' := by
  have hcb := World.block_lt_of_cell? w c hc
  have S0 : PrA c h p H w ((((((w.alloc (.cells (arrv 300 p) 26)).alloc (.cells (arrv 24 H) 22)).alloc (.cells Tryz.zeroCells26 26)).alloc (.cells #[.int .i64 0, .int .i64 0, .int .i64 0, .int .i64 0, .int .i64 0, .int .i64 0, .int .i64 0, .int .i64 0, .int .i64 0, .int .i64 0, .int .i64 0, .int .i64 0, .int .i64 0, .int .i64 0, .int .i64 0, .int .i64 0, .int .i64 0, .int .i64 0, .int .i64 0, .int .i64 0, .int .i64 0, .int .i64 0, .int .i64 0, .int .i64 0] 22)).alloc (.cells #[.int .i64 0, .int .i64 0, .int .i64 0, .int .i64 0, .int .i64 0, .int .i64 0, .int .i64 0, .int .i64 0, .int .i64 0, .int .i64 0, .int .i64 0, .int .i64 0, .int .i64 0, .int .i64 0, .int .i64 0, .int .i64 0, .int .i64 0, .int .i64 0, .int .i64 0, .int .i64 0, .int .i64 0, .int .i64 0, .int .i64 0, .int .i64 0] 22)).alloc (.cells #[.int .i64 0, .int .i64 0, .int .i64 0, .int .i64 0, .int .i64 0, .int .i64 0, .int .i64 0, .int .i64 0, .int .i64 0, .int .i64 0, .int .i64 0, .int .i64 0, .int .i64 0, .int .i64 0, .int .i64 0, .int .i64 0, .int .i64 0, .int .i64 0, .int .i64 0, .int .i64 0, .int .i64 0, .int .i64 0, .int .i64 0, .int .i64 0, .int .i64 0] 89)) := by
    rw [zcov, zcol, z25]
    refine ⟨Upd.then (Upd.refl hc) (by (repeat (first | with_reducible exact Below.refl _ _ | with_reducible apply Below.drew | (with_reducible refine below_drewN ?_ _) | (with_reducible refine Below.alloc ?_ (by (try simp) <;> omega) _) | (with_reducible refine Below.setCell ?_ (by (try simp) <;> omega) _)))), ?_, ?_, ?_, ?_, ?_, ?_⟩
    · exact (((((Blk.new w _ _ _).alloc _).alloc _).alloc _).alloc _).alloc _
    · exact ((((Blk.new1 w _ _ _ _).alloc _).alloc _).alloc _).alloc _
    · exact (((blk_new2 w _ _ _ _ _).alloc _).alloc _).alloc _
    · exact ((blk_new3 w _ _ _ _ _ _).alloc _).alloc _
    · have := blk_new3 (w.alloc (.cells (arrv 300 p) 26)) (.cells (arrv 24 H) 22) (.cells (arrv 300 (fun _ => 0)) 26) (.cells (arrv 24 (fun _ => 0)) 22) 22 24 (fun _ => 0)
      rw [show (w.alloc (.cells (arrv 300 p) 26)).heap.size = w.heap.size + 1 by simp] at this
      exact this.alloc _
    · have := blk_new3 ((w.alloc (.cells (arrv 300 p) 26)).alloc (.cells (arrv 24 H) 22)) (.cells (arrv 300 (fun _ => 0)) 26) (.cells (arrv 24 (fun _ => 0)) 22) (.cells (arrv 24 (fun _ => 0)) 22) 89 25 (fun _ => 0)
      rw [show ((w.alloc (.cells (arrv 300 p) 26)).alloc (.cells (arrv 24 H) 22)).heap.size = w.heap.size + 1 + 1 by simp] at this
      exact this
  have HC := Lib.hid hc
  have HF := Lib.hid hf
  go_enter Tryz.func50, Tryz.ntmps50
  go_upto_region 1 with fail
  generalize (((((w.alloc (.cells (arrv 300 p) 26)).alloc (.cells (arrv 24 H) 22)).alloc (.cells Tryz.zeroCells26 26)).alloc (.cells #[.int .i64 0, .int .i64 0, .int .i64 0, .int .i64 0, .int .i64 0, .int .i64 0, .int .i64 0, .int .i64 0, .int .i64 0, .int .i64 0, .int .i64 0, .int .i64 0, .int .i64 0, .int .i64 0, .int .i64 0, .int .i64 0, .int .i64 0, .int .i64 0, .int .i64 0, .int .i64 0, .int .i64 0, .int .i64 0, .int .i64 0, .int .i64 0] 22)).alloc (.cells #[.int .i64 0, .int .i64 0, .int .i64 0, .int .i64 0, .int .i64 0, .int .i64 0, .int .i64 0, .int .i64 0, .int .i64 0, .int .i64 0, .int .i64 0, .int .i64 0, .int .i64 0, .int .i64 0, .int .i64 0, .int .i64 0, .int .i64 0, .int .i64 0, .int .i64 0, .int .i64 0, .int .i64 0, .int .i64 0, .int .i64 0, .int .i64 0] 22)).alloc (.cells #[.int .i64 0, .int .i64 0, .int .i64 0, .int .i64 0, .int .i64 0, .int .i64 0, .int .i64 0, .int .i64 0, .int .i64 0, .int .i64 0, .int .i64 0, .int .i64 0, .int .i64 0, .int .i64 0, .int .i64 0, .int .i64 0, .int .i64 0, .int .i64 0, .int .i64 0, .int .i64 0, .int .i64 0, .int .i64 0, .int .i64 0, .int .i64 0, .int .i64 0] 89) = W0 at *
  have c0 := S0.upd.cellc hc
  have f0 := (S0.upd.frozen hcb).trans hf
  have P0 := S0.pB
  have HS0 := Lib.hid S0
  clear S0 hc hf
  go_upto_region 2 with (first | (refine wpList_load_row rfl 26 _ rfl (w.heap.size) rfl 26 _ (0, 0) _ (P0) Tryz.underlying26 rfl (icov.trans (by rw [arrv_size])) ?_) | (go_at_call 21; (refine (rcond_any c h p _ c0 f0).mono ?_); rintro e w1 ⟨rfl, hu1⟩; have P1 := P0.upd hu1 (by omega)) | (refine wpList_store_row rfl 26 _ _ rfl (w.heap.size) _ rfl rfl 26 _ (P1) (icov.trans (by rw [arrv_size])) (by rw [arrv_size, arrv_size]) (oneCell_arrv _ _) ?_))
  have S1 : Hid (PrA c (h || condH p) (condF p) H w (w1.setRow w.heap.size (arrv 300 (condF p)))) := by
    have S := HS0.out.upd' hcb hu1
    exact Lib.hid ⟨S.upd.then' (below_row (Below.refl _ _) (Nat.le_refl _) _), P1.setRow _, S.hB.setRow_other _ (by omega), S.z0.setRow_other _ (by omega), S.z1.setRow_other _ (by omega), S.z2.setRow_other _ (by omega), S.z3.setRow_other _ (by omega)⟩
  generalize w1.setRow w.heap.size (arrv 300 (condF p)) = W1 at *
  clear P0 P1 hu1 HS0 c0 f0
  obtain ⟨P, hP⟩ : ∃ P, condF p = P := ⟨_, rfl⟩
  obtain ⟨H1, hH1⟩ : ∃ H1, (h || condH p) = H1 := ⟨_, rfl⟩
  rw [hP, hH1] at S1
  have EP := Lib.hid hP
  have EH1 := Lib.hid hH1
  clear hP hH1
  go_wp2_with fail
  go_loopw [12] (fun i wr => ∃ k : Nat, k ≤ 24 ∧ i = .int .i64 k ∧ Hid (PrA c (H1 || orB (fun k => satH (H k)) k) P (satS H k) w wr)) (fun i _ => 24 - (intOf i).toNat)
  case atStart =>
    refine ⟨0, by omega, rfl, ?_⟩
    rw [show (H1 || orB (fun k => satH (H k)) 0) = H1 from by simp [orB]]
    exact Lib.hid (S1.out.congH fun i hi => by simp [satS])
  case round =>
    obtain ⟨k, hk, rfl, R⟩ := hrel
    clear S1
    by_cases hlt : k < 24
    · have d1 : decide ((k : Int) < 24) = true := by simp; omega
      have k0 : (0 : Int) ≤ (k : Int) := Int.natCast_nonneg _
      have k1 : (k : Int) < 24 := by omega
      have rc := R.out.upd.cellc HC.out
      have rf := (R.out.upd.frozen hcb).trans HF.out
      have b0 := R.out.hB.cell (i := k) (by omega)
      have b1 := R.out.hB.free k
      have n0 := ne_of_cells rc b0
      have hv : satS H k k = H k := by simp [satS]
      rw [hv] at b0
      clear hv
      have CC := Lib.hid (rsat_any c _ (H k) wr.drew rc rf)
      go_upto_region 5 with fail
      refine wp_region_M (fun w' => w'.cell? ⟨w.heap.size + 1, k, none⟩ = some (.int .i64 (H k))) 9 (by kernel_rfl) ?_ (fun hHeld => ?_)
      · exact b0
      refine wpAnyM_take 0 (v := ?_) rfl (by kernel_rfl) (fun _ _ _ h => h) (Or.inl ⟨by rfl, ?_⟩) (by assumption) ?_
      rotate_left
      · (intro wx hSw; (try dsimp only at hSw); go_simp; (try with_reducible rfl))
      (try simp only [Act.put, nA, nB, nC])
      refine wpAnyM_take 1 (v := ?_) rfl (by kernel_rfl) (fun _ _ _ h => h) (Or.inl ⟨by rfl, ?_⟩) (by assumption) ?_
      rotate_left
      · (intro wx hSw; (try dsimp only at hSw); go_simp; (try with_reducible rfl))
      (try simp only [Act.put, nA, nB, nC])
      refine wpAnyM_take 2 (v := ?_) rfl (by kernel_rfl) (fun _ _ _ h => h) (Or.inl ⟨by rfl, ?_⟩) (by assumption) ?_
      rotate_left
      · (intro wx hSw; (try dsimp only at hSw); go_simp; (try with_reducible rfl))
      (try simp only [Act.put, nA, nB, nC])
      refine wpAnyM_take 3 (v := ?_) rfl (by kernel_rfl) (fun _ _ _ h => h) (Or.inl ⟨by rfl, ?_⟩) (by assumption) ?_
      rotate_left
      · (intro wx hSw; (try dsimp only at hSw); go_simp; (try with_reducible rfl))
      (try simp only [Act.put, nA, nB, nC])
      refine wpAnyM_take 4 (v := ?_) rfl (by kernel_rfl) (fun _ _ _ h => h) (Or.inl ⟨by rfl, ?_⟩) (by assumption) ?_
      rotate_left
      · (intro wx hSw; (try dsimp only at hSw); go_simp; (try with_reducible rfl))
      (try simp only [Act.put, nA, nB, nC])
      refine wpAnyM_take 5 (v := ?_) rfl (by kernel_rfl) (fun _ _ _ h => h) (Or.inl ⟨by rfl, ?_⟩) (by assumption) ?_
      rotate_left
      · (intro wx hSw; (try dsimp only at hSw); go_simp; (try with_reducible rfl))
      (try simp only [Act.put, nA, nB, nC])
      refine wpAnyM_take 6 (v := ?_) rfl (by kernel_rfl) (fun _ _ _ h => h) (Or.inl ⟨by rfl, ?_⟩) (by assumption) ?_
      rotate_left
      · (intro wx hSw; (try dsimp only at hSw); go_simp; (try with_reducible rfl))
      (try simp only [Act.put, nA, nB, nC])
      refine wpAnyM_oneS 7 rfl (by kernel_rfl) (fun K hK => ?_)
      go_simp
      (refine CC.out.mono ?_); rintro e w' ⟨rfl, rfl⟩
      (try dsimp only)
      (try simp only [Act.put, nA, nB, nC])
      clear hHeld
      refine hK.out _ _ ?_ (fun hHeld => ?_)
      · simp [go_sem, *]
      clear hK K
      (try simp only [Act.put, nA, nB, nC])
      refine wpAnyM_take 8 (v := ?_) rfl (by kernel_rfl) (fun _ _ _ h => h) (Or.inl ⟨by rfl, ?_⟩) (by assumption) ?_
      rotate_left
      · (intro wx hSw; (try dsimp only at hSw); go_simp; (try with_reducible rfl))
      (try simp only [Act.put, nA, nB, nC])
      refine wpAnyM_one 9 rfl (by kernel_rfl) (fun K hK => ?_)
      go_simp
      refine hK.out _ _ (.inl (by kernel_rfl)) (fun _ => ?_)
      clear hK K
      (try simp only [Act.put, nA, nB, nC])
      refine wpAnyM_done (by kernel_rfl) ?_ _
      have A1 : Upd c (H1 || orB (fun k => satH (H k)) k || satH (H k)) wr (wr.drew.setCell c (.bool (H1 || orB (fun k => satH (H k)) k || satH (H k)))) := Upd.after (Below.drew (Below.refl _ _)) (Upd.set c _ wr.drew)
      have S2 := R.out.upd' hcb A1
      go_wp2_with fail
      go_roundw
      case rel =>
        refine ⟨k + 1, by omega, by go_num, ?_⟩
        rw [show (H1 || orB (fun k => satH (H k)) (k + 1)) = (H1 || orB (fun k => satH (H k)) k || satH (H k)) from by simp [orB, Bool.or_assoc]]
        refine Lib.hid ((S2.setH k (satV (H k))).congH fun i hi => ?_)
        simp only [Go.Proofs.YtiajjiphknlldaaGreat.upd, satS]
        by_cases h1 : i = k
        · subst h1; rw [if_pos rfl, if_pos (by omega)]
        · rw [if_neg h1]; split <;> split <;> first | rfl | omega
      case measure => simp [intOf]; omega
    · have hk24 : k = 24 := by omega
      subst hk24
      rw [show ((24 : Nat) : Int) = 24 from rfl]
      obtain ⟨H2, hH2⟩ : ∃ H2, (H1 || orB (fun k => satH (H k)) 24) = H2 := ⟨_, rfl⟩
      obtain ⟨S, hS⟩ : ∃ S, satS H 24 = S := ⟨_, rfl⟩
      rw [hH2, hS] at R
      have EH2 := Lib.hid hH2
      have ES := Lib.hid hS
      have hsz : w.heap.size + 5 < wr.heap.size := R.out.z3.lt
      clear hH2 hS hk hlt
      go_upto_region 9 with fail
      have S3 : PrB c H2 P S wr.heap.size (wr.heap.size + 1) (wr.heap.size + 1 + 1) (fun _ => 0) (fun _ => 0) (fun _ => 0) w (((wr.alloc (.cells #[.int .i64 0, .int .i64 0, .int .i64 0, .int .i64 0, .int .i64 0, .int .i64 0, .int .i64 0, .int .i64 0, .int .i64 0, .int .i64 0, .int .i64 0, .int .i64 0, .int .i64 0, .int .i64 0, .int .i64 0, .int .i64 0, .int .i64 0, .int .i64 0, .int .i64 0, .int .i64 0, .int .i64 0, .int .i64 0, .int .i64 0, .int .i64 0] 22)).alloc (.cells #[.int .i64 0, .int .i64 0, .int .i64 0, .int .i64 0, .int .i64 0, .int .i64 0, .int .i64 0, .int .i64 0, .int .i64 0, .int .i64 0, .int .i64 0, .int .i64 0, .int .i64 0, .int .i64 0, .int .i64 0, .int .i64 0, .int .i64 0, .int .i64 0, .int .i64 0, .int .i64 0, .int .i64 0, .int .i64 0, .int .i64 0, .int .i64 0] 22)).alloc (.cells #[.int .i64 0, .int .i64 0, .int .i64 0, .int .i64 0, .int .i64 0, .int .i64 0, .int .i64 0, .int .i64 0, .int .i64 0, .int .i64 0, .int .i64 0, .int .i64 0, .int .i64 0, .int .i64 0, .int .i64 0, .int .i64 0, .int .i64 0, .int .i64 0, .int .i64 0, .int .i64 0, .int .i64 0, .int .i64 0, .int .i64 0, .int .i64 0, .int .i64 0] 89)) := by
        rw [zcol, z25]
        exact ⟨R.out.below (by (repeat (first | with_reducible exact Below.refl _ _ | with_reducible apply Below.drew | (with_reducible refine below_drewN ?_ _) | (with_reducible refine Below.alloc ?_ (by (try simp) <;> omega) _) | (with_reducible refine Below.setCell ?_ (by (try simp) <;> omega) _)))), ((Blk.new wr _ _ _).alloc _).alloc _, (Blk.new1 wr _ _ _ _).alloc _, blk_new2 wr _ _ _ _ _, by omega⟩
      generalize ((wr.alloc (.cells #[.int .i64 0, .int .i64 0, .int .i64 0, .int .i64 0, .int .i64 0, .int .i64 0, .int .i64 0, .int .i64 0, .int .i64 0, .int .i64 0, .int .i64 0, .int .i64 0, .int .i64 0, .int .i64 0, .int .i64 0, .int .i64 0, .int .i64 0, .int .i64 0, .int .i64 0, .int .i64 0, .int .i64 0, .int .i64 0, .int .i64 0, .int .i64 0] 22)).alloc (.cells #[.int .i64 0, .int .i64 0, .int .i64 0, .int .i64 0, .int .i64 0, .int .i64 0, .int .i64 0, .int .i64 0, .int .i64 0, .int .i64 0, .int .i64 0, .int .i64 0, .int .i64 0, .int .i64 0, .int .i64 0, .int .i64 0, .int .i64 0, .int .i64 0, .int .i64 0, .int .i64 0, .int .i64 0, .int .i64 0, .int .i64 0, .int .i64 0] 22)).alloc (.cells #[.int .i64 0, .int .i64 0, .int .i64 0, .int .i64 0, .int .i64 0, .int .i64 0, .int .i64 0, .int .i64 0, .int .i64 0, .int .i64 0, .int .i64 0, .int .i64 0, .int .i64 0, .int .i64 0, .int .i64 0, .int .i64 0, .int .i64 0, .int .i64 0, .int .i64 0, .int .i64 0, .int .i64 0, .int .i64 0, .int .i64 0, .int .i64 0, .int .i64 0] 89) = W3 at *
      obtain ⟨fb, hfb⟩ : ∃ x, wr.heap.size = x := ⟨_, rfl⟩
      obtain ⟨vb, hvb⟩ : ∃ x, wr.heap.size + 1 = x := ⟨_, rfl⟩
      obtain ⟨ab, hab⟩ : ∃ x, wr.heap.size + 1 + 1 = x := ⟨_, rfl⟩
      rw [hab, hvb, hfb] at S3
      rw [hab, hvb, hfb]
      clear R hab hvb hfb hsz
      have rc := S3.a.upd.cellc HC.out
      have rf := (S3.a.upd.frozen hcb).trans HF.out
      have b0 := S3.aB.cell (i := 0) (by omega)
      have b1 := S3.aB.free 0
      have n0 := ne_of_cells rc b0
      have CC := Lib.hid (rclamp_any c _ r 1 72057594037927936 W3 rc rf)
      have HS3 := Lib.hid S3
      clear S3
      go_upto_region 10 with (go_at_call 48; (refine CC.out.mono ?_); rintro e w' ⟨rfl, rfl⟩)
      obtain ⟨R, hR⟩ : ∃ R, varV r = R := ⟨_, rfl⟩
      have ER := Lib.hid hR
      have S4 : Hid (PrB c (H2 || varH r) P S fb vb ab (fS' P S 0) (vS' P S 0) (aS' P S R 0) w ((W3.setCell c (.bool (H2 || clampH r 1 72057594037927936))).setCell ⟨ab, 0, none⟩ (.int .i64 (clampV r 1 72057594037927936)))) := by
        refine Lib.hid (((HS3.out.upd' hcb (Upd.set c (H2 || varH r) W3)).setA 0 (varV r)).cong (fun i hi => by simp [fS']) (fun i hi => by simp [vS']) (fun i hi => ?_))
        simp only [Go.Proofs.YtiajjiphknlldaaGreat.upd, aS']
        by_cases h1 : i = 0
        · subst h1; rw [if_pos rfl, if_pos (by omega), hR]; rfl
        · rw [if_neg h1, if_neg (by omega)]
      generalize (W3.setCell c (.bool (H2 || clampH r 1 72057594037927936))).setCell ⟨ab, 0, none⟩ (.int .i64 (clampV r 1 72057594037927936)) = W4 at *
      obtain ⟨H3, hH3⟩ : ∃ H3, (H2 || varH r) = H3 := ⟨_, rfl⟩
      rw [hH3] at S4
      have EH3 := Lib.hid hH3
      clear hH3 hR HS3 b0 b1 n0 rc rf CC
      go_wp2_with fail
      go_loopw [16] (fun i wr => ∃ j : Nat, j ≤ 24 ∧ i = .int .i64 j ∧ Hid (PrB c (H3 || orB (bkS P S R) j) P S fb vb ab (fS' P S j) (vS' P S j) (aS' P S R j) w wr)) (fun i _ => 24 - (intOf i).toNat)
      case atStart =>
        refine ⟨0, by omega, rfl, ?_⟩
        rw [show (H3 || orB (bkS P S R) 0) = H3 from by simp [orB]]
        exact S4
      case round =>
        obtain ⟨j, hj, rfl, Q⟩ := hrel
        clear S4
        by_cases hlt : j < 24
        · have d1 : decide ((j : Int) < 24) = true := by simp; omega
          have k0 : (0 : Int) ≤ (j : Int) := Int.natCast_nonneg _
          have k1 : (j : Int) < 24 := by omega
          have Y0 : Blk (wr.alloc (.cells #[.int .i64 0, .int .i64 0, .int .i64 0, .int .i64 0, .int .i64 0, .int .i64 0, .int .i64 0, .int .i64 0, .int .i64 0, .int .i64 0, .int .i64 0, .int .i64 0, .int .i64 0, .int .i64 0, .int .i64 0, .int .i64 0, .int .i64 0, .int .i64 0, .int .i64 0, .int .i64 0, .int .i64 0, .int .i64 0, .int .i64 0, .int .i64 0] 22)) wr.heap.size 22 24 (fun _ => 0) := by rw [zcol]; exact Blk.new wr _ _ _
          go_upto_region 13 with fail
          refine wp_region_lit ?_
          refine wpList_val (v := ?_) rfl ?_ ?_
          rotate_left
          · (go_simp; rw [zcol])
          (try simp only [Act.put, nA, nB, nC])
          refine wpList_act (v := ?_) (w' := ?_) rfl ?_ ?_
          rotate_left 2
          · (go_simp; (try (first | with_reducible rfl | (constructor <;> with_reducible rfl))))
          (try simp only [Act.put, nA, nB, nC])
          refine wpList_done (w' := ?_) rfl ?_ ?_
          rotate_left
          · refine Eq.trans (run_store_row 22 (.tmp 17) (.tmp 45) (by rfl) (wr.heap.size) (by rfl) (by rfl) (Y0) (icol.trans rfl)) ?_; with_reducible rfl
          (try simp only [Act.put, nA, nB, nC])
          refine wpList_nil ?_
          have hcbk : ab < wr.heap.size := Q.out.aB.lt
          obtain ⟨HJ, hHJ⟩ : ∃ x, (H3 || orB (bkS P S R) j) = x := ⟨_, rfl⟩
          rw [hHJ] at Q
          have EHJ := Lib.hid hHJ
          have S5 : Hid (PrB c HJ P S fb vb ab (fS' P S j) (vS' P S j) (aS' P S R j) w ((wr.alloc (.cells #[.int .i64 0, .int .i64 0, .int .i64 0, .int .i64 0, .int .i64 0, .int .i64 0, .int .i64 0, .int .i64 0, .int .i64 0, .int .i64 0, .int .i64 0, .int .i64 0, .int .i64 0, .int .i64 0, .int .i64 0, .int .i64 0, .int .i64 0, .int .i64 0, .int .i64 0, .int .i64 0, .int .i64 0, .int .i64 0, .int .i64 0, .int .i64 0] 22)).setRow wr.heap.size (arrv 24 (fun _ => 0)))) := Lib.hid (Q.out.below (below_row ((Below.refl _ _).alloc (Nat.le_refl _) _) (Nat.le_refl _) _))
          have Y5 : Hid (Blk ((wr.alloc (.cells #[.int .i64 0, .int .i64 0, .int .i64 0, .int .i64 0, .int .i64 0, .int .i64 0, .int .i64 0, .int .i64 0, .int .i64 0, .int .i64 0, .int .i64 0, .int .i64 0, .int .i64 0, .int .i64 0, .int .i64 0, .int .i64 0, .int .i64 0, .int .i64 0, .int .i64 0, .int .i64 0, .int .i64 0, .int .i64 0, .int .i64 0, .int .i64 0] 22)).setRow wr.heap.size (arrv 24 (fun _ => 0))) wr.heap.size 22 24 (fun _ => 0)) := Lib.hid (Y0.setRow _)
          clear Y0 Q hHJ
          generalize (wr.alloc (.cells #[.int .i64 0, .int .i64 0, .int .i64 0, .int .i64 0, .int .i64 0, .int .i64 0, .int .i64 0, .int .i64 0, .int .i64 0, .int .i64 0, .int .i64 0, .int .i64 0, .int .i64 0, .int .i64 0, .int .i64 0, .int .i64 0, .int .i64 0, .int .i64 0, .int .i64 0, .int .i64 0, .int .i64 0, .int .i64 0, .int .i64 0, .int .i64 0] 22)).setRow wr.heap.size (arrv 24 (fun _ => 0)) = W5 at *
          generalize wr.heap.size = yb at *
          go_wp2_with fail
          go_loopw [18] (fun v wr => ∃ m : Nat, m ≤ j + 1 ∧ v = .int .i64 m ∧ Hid (PrB c HJ P S fb vb ab (fS' P S j) (vS' P S j) (aS' P S R j) w wr ∧ Blk wr yb 22 24 (fun x => if x < m then uV P x j else 0))) (fun v _ => j + 1 - (intOf v).toNat)
          case atStart => exact ⟨0, by omega, rfl, Lib.hid ⟨S5.out, Y5.out.congr fun x hx => by simp⟩⟩
          case round =>
            obtain ⟨m, hm, rfl, Q⟩ := hrel
            clear S5 Y5
            by_cases hmk : m < j + 1
            · have d2 : decide (m ≤ j) = true := by simp; omega
              have m0 : (0 : Int) ≤ (m : Int) := Int.natCast_nonneg _
              have m1 : (m : Int) < 24 := by omega
              have UC := Lib.hid (rU_any P w.heap.size m j wr (by omega) (by omega) Q.out.1.a.pB)
              have l1 := Q.out.2.lt
              go_upto_region 17 with fail
              go_upto_region 16 with (go_at_call 54; (refine UC.out.mono ?_); rintro e w3 ⟨rfl, hb3⟩; have HB3 := Lib.hid hb3; have Y3 := Lib.hid (Q.out.2.below hb3); have g1 := Y3.out.cell (i := m) (by omega); have g0 := Y3.out.free m; clear hb3)
              have S6 := Q.out.1.below HB3.out
              have Y6 := Y3.out
              clear Q Y3 g0 g1
              go_wp2_with fail
              go_roundw
              case rel =>
                refine ⟨m + 1, by omega, by go_num, Lib.hid ⟨S6.other (by omega) _, (Y6.set m (uV P m j)).congr fun x hx => ?_⟩⟩
                simp only [Go.Proofs.YtiajjiphknlldaaGreat.upd]
                by_cases h1 : x = m
                · subst h1; rw [if_pos rfl, if_pos (by omega)]
                · rw [if_neg h1]; split <;> split <;> first | rfl | omega
              case measure => simp [intOf]; omega
            · have hmk' : m = j + 1 := by omega
              subst hmk'
              have d2 : decide (j + 1 ≤ j) = false := by simp
              have Y7 : Hid (Blk wr yb 22 24 (colF P j)) := Lib.hid (Q.out.2.congr fun x hx => by unfold colF; split <;> split <;> first | rfl | omega)
              have S7 := Lib.hid Q.out.1
              clear Q hm hmk
              have iw : IntKind.i64.wrap ((j : Int) + 1) = (j : Int) + 1 := IntWalk.i64_in _ (by omega)
              have rc := S7.out.a.upd.cellc HC.out
              have rf := (S7.out.a.upd.frozen hcb).trans HF.out
              have ga : ∀ x, x < j + 1 → wr.drew.cell? ⟨w.heap.size + 1, 0 + x, none⟩ = some (.int .i64 (S x)) := fun x hx => by rw [Nat.zero_add]; exact S7.out.a.hB.cell (i := x) (by omega)
              have gb : ∀ x, x < j + 1 → wr.drew.cell? ⟨yb, 0 + x, none⟩ = some (.int .i64 (colF P j x)) := fun x hx => by rw [Nat.zero_add]; exact Y7.out.cell (i := x) (by omega)
              have DC := Lib.hid (rdot_any c HJ S (colF P j) (w.heap.size + 1) 0 24 yb 0 24 (j + 1) wr.drew rc rf (by omega) ga gb)
              clear ga gb rc rf
              obtain ⟨FV, hFV⟩ : ∃ x, dotV 30 S (colF P j) (j + 1) = x := ⟨_, rfl⟩
              obtain ⟨FH, hFH⟩ : ∃ x, dotH 30 S (colF P j) (j + 1) = x := ⟨_, rfl⟩
              rw [hFV, hFH] at DC
              have EFV := Lib.hid hFV
              have EFH := Lib.hid hFH
              clear hFV hFH
              go_upto_region 18 with fail
              refine wp_region_M (fun _ => True) 12 (by kernel_rfl) ?_ (fun hHeld => ?_)
              · trivial
              refine wpAnyM_take 0 (v := ?_) rfl (by kernel_rfl) (fun _ _ _ h => h) (Or.inl ⟨by rfl, ?_⟩) (by assumption) ?_
              rotate_left
              · (intro wx hSw; (try dsimp only at hSw); go_simp; (try with_reducible rfl))
              (try simp only [Act.put, nA, nB, nC])
              refine wpAnyM_take 1 (v := ?_) rfl (by kernel_rfl) (fun _ _ _ h => h) (Or.inl ⟨by rfl, ?_⟩) (by assumption) ?_
              rotate_left
              · (intro wx hSw; (try dsimp only at hSw); go_simp; (try with_reducible rfl))
              (try simp only [Act.put, nA, nB, nC])
              refine wpAnyM_take 2 (v := ?_) rfl (by kernel_rfl) (fun _ _ _ h => h) (Or.inl ⟨by rfl, ?_⟩) (by assumption) ?_
              rotate_left
              · (intro wx hSw; (try dsimp only at hSw); go_simp; (try with_reducible rfl))
              (try simp only [Act.put, nA, nB, nC])
              refine wpAnyM_take 3 (v := ?_) rfl (by kernel_rfl) (fun _ _ _ h => h) (Or.inl ⟨by rfl, ?_⟩) (by assumption) ?_
              rotate_left
              · (intro wx hSw; (try dsimp only at hSw); go_simp; (try with_reducible rfl))
              (try simp only [Act.put, nA, nB, nC])
              refine wpAnyM_take 4 (v := ?_) rfl (by kernel_rfl) (fun _ _ _ h => h) (Or.inl ⟨by rfl, ?_⟩) (by assumption) ?_
              rotate_left
              · (intro wx hSw; (try dsimp only at hSw); go_simp; (try with_reducible rfl))
              (try simp only [Act.put, nA, nB, nC])
              refine wpAnyM_take 5 (v := ?_) rfl (by kernel_rfl) (fun _ _ _ h => h) (Or.inl ⟨by rfl, ?_⟩) (by assumption) ?_
              rotate_left
              · (intro wx hSw; (try dsimp only at hSw); go_simp; (try with_reducible rfl))
              (try simp only [Act.put, nA, nB, nC])
              refine wpAnyM_take 6 (v := ?_) rfl (by kernel_rfl) (fun _ _ _ h => h) (Or.inl ⟨by rfl, ?_⟩) (by assumption) ?_
              rotate_left
              · (intro wx hSw; refine Eq.trans (run_slice_col (.tmp 6) (.tmp 61) (by rfl) (w.heap.size + 1) (by rfl) _ (by rfl) (j + 1) (by first | (simp; done) | (rw [IntWalk.i64_in _ (by omega)]; simp)) (by omega)) ?_; with_reducible rfl)
              (try simp only [Act.put, nA, nB, nC])
              refine wpAnyM_take 7 (v := ?_) rfl (by kernel_rfl) (fun _ _ _ h => h) (Or.inl ⟨by rfl, ?_⟩) (by assumption) ?_
              rotate_left
              · (intro wx hSw; (try dsimp only at hSw); go_simp; (try with_reducible rfl))
              (try simp only [Act.put, nA, nB, nC])
              refine wpAnyM_take 8 (v := ?_) rfl (by kernel_rfl) (fun _ _ _ h => h) (Or.inl ⟨by rfl, ?_⟩) (by assumption) ?_
              rotate_left
              · (intro wx hSw; (try dsimp only at hSw); go_simp; (try with_reducible rfl))
              (try simp only [Act.put, nA, nB, nC])
              refine wpAnyM_take 9 (v := ?_) rfl (by kernel_rfl) (fun _ _ _ h => h) (Or.inl ⟨by rfl, ?_⟩) (by assumption) ?_
              rotate_left
              · (intro wx hSw; refine Eq.trans (run_slice_col (.tmp 17) (.tmp 64) (by rfl) yb (by rfl) _ (by rfl) (j + 1) (by first | (simp; done) | (rw [IntWalk.i64_in _ (by omega)]; simp)) (by omega)) ?_; with_reducible rfl)
              (try simp only [Act.put, nA, nB, nC])
              refine wpAnyM_oneS 10 rfl (by kernel_rfl) (fun K hK => ?_)
              go_simp
              (refine DC.out.mono ?_); rintro e w5 ⟨rfl, hu5⟩; have L5 := Lib.hid (S7.out.upd' hcb (Upd.after (Below.drew (Below.refl _ _)) hu5)); have n0 := L5.out.fB.cell (i := j) (by omega); have n1 := L5.out.fB.free j; clear hu5
              (try dsimp only)
              (try simp only [Act.put, nA, nB, nC])
              clear hHeld
              refine hK.out _ _ ?_ (fun hHeld => ?_)
              · trivial
              clear hK K
              (try simp only [Act.put, nA, nB, nC])
              refine wpAnyM_take 11 (v := ?_) rfl (by kernel_rfl) (fun _ _ _ h => h) (Or.inl ⟨by rfl, ?_⟩) (by assumption) ?_
              rotate_left
              · (intro wx hSw; (try dsimp only at hSw); go_simp; (try with_reducible rfl))
              (try simp only [Act.put, nA, nB, nC])
              refine wpAnyM_one 12 rfl (by kernel_rfl) (fun K hK => ?_)
              go_simp
              refine hK.out _ _ (.inl (by kernel_rfl)) (fun _ => ?_)
              clear hK K
              (try simp only [Act.put, nA, nB, nC])
              refine wpAnyM_done (by kernel_rfl) ?_ _
              have eF : fS' P S (j + 1) j = FV := by unfold fS'; rw [if_pos (by omega)]; exact EFV.out
              have L6 : PrB c (HJ || FH) P S fb vb ab (fS' P S (j + 1)) (vS' P S j) (aS' P S R j) w (w5.setCell ⟨fb, j, none⟩ (.int .i64 FV)) := (L5.out.setF j FV).cong (fun x hx => by
                simp only [Go.Proofs.YtiajjiphknlldaaGreat.upd]
                by_cases h1 : x = j
                · subst h1; rw [if_pos rfl, eF]
                · rw [if_neg h1]; unfold fS'; split <;> split <;> first | rfl | omega) (fun _ _ => rfl) (fun _ _ => rfl)
              generalize w5.setCell ⟨fb, j, none⟩ (.int .i64 FV) = W6 at *
              have m0 := L6.a.pB.cell (i := 276 + j) (by omega)
              have m1 := L6.fB.cell (i := j) (by omega)
              rw [eF] at m1
              have rc := L6.a.upd.cellc HC.out
              have rf := (L6.a.upd.frozen hcb).trans HF.out
              have MC := Lib.hid (rm_any c _ (P (276 + j)) FV W6.drew rc rf)
              obtain ⟨VV, hVV⟩ : ∃ x, mulV (P (276 + j)) FV 30 = x := ⟨_, rfl⟩
              obtain ⟨VH, hVH⟩ : ∃ x, mulH (P (276 + j)) FV 30 = x := ⟨_, rfl⟩
              rw [hVV, hVH] at MC
              have EVV := Lib.hid hVV
              have EVH := Lib.hid hVH
              have HL6 := Lib.hid L6
              have EF := Lib.hid eF
              clear n0 n1 L5 DC L6 rc rf hVV hVH S7 Y7 eF
              go_upto_region 19 with fail
              refine wp_region_M (fun w' => w'.cell? ⟨w.heap.size, 276 + j, none⟩ = some (.int .i64 (P (276 + j))) ∧ w'.cell? ⟨fb, j, none⟩ = some (.int .i64 FV)) 13 (by kernel_rfl) ?_ (fun hHeld => ?_)
              · exact ⟨m0, m1⟩
              refine wpAnyM_take 0 (v := ?_) rfl (by kernel_rfl) (fun _ _ _ h => h) (Or.inl ⟨by rfl, ?_⟩) (by assumption) ?_
              rotate_left
              · (intro wx hSw; (try dsimp only at hSw); go_simp; (try with_reducible rfl))
              (try simp only [Act.put, nA, nB, nC])
              refine wpAnyM_take 1 (v := ?_) rfl (by kernel_rfl) (fun _ _ _ h => h) (Or.inl ⟨by rfl, ?_⟩) (by assumption) ?_
              rotate_left
              · (intro wx hSw; (try dsimp only at hSw); go_simp; (try with_reducible rfl))
              (try simp only [Act.put, nA, nB, nC])
              refine wpAnyM_take 2 (v := ?_) rfl (by kernel_rfl) (fun _ _ _ h => h) (Or.inl ⟨by rfl, ?_⟩) (by assumption) ?_
              rotate_left
              · (intro wx hSw; (try dsimp only at hSw); go_simp; (try with_reducible rfl))
              (try simp only [Act.put, nA, nB, nC])
              refine wpAnyM_take 3 (v := ?_) rfl (by kernel_rfl) (fun _ _ _ h => h) (Or.inl ⟨by rfl, ?_⟩) (by assumption) ?_
              rotate_left
              · (intro wx hSw; (try dsimp only at hSw); go_simp; (try with_reducible rfl))
              (try simp only [Act.put, nA, nB, nC])
              refine wpAnyM_take 4 (v := ?_) rfl (by kernel_rfl) (fun _ _ _ h => h) (Or.inl ⟨by rfl, ?_⟩) (by assumption) ?_
              rotate_left
              · (intro wx hSw; (try dsimp only at hSw); go_simp; (try with_reducible rfl))
              (try simp only [Act.put, nA, nB, nC])
              refine wpAnyM_take 5 (v := ?_) rfl (by kernel_rfl) (fun _ _ _ h => h) (Or.inl ⟨by rfl, ?_⟩) (by assumption) ?_
              rotate_left
              · (intro wx hSw; (try dsimp only at hSw); go_simp; (try with_reducible rfl))
              (try simp only [Act.put, nA, nB, nC])
              refine wpAnyM_take 6 (v := ?_) rfl (by kernel_rfl) (fun _ _ _ h => h) (Or.inl ⟨by rfl, ?_⟩) (by assumption) ?_
              rotate_left
              · (intro wx hSw; (try dsimp only at hSw); go_simp; (try with_reducible rfl))
              (try simp only [Act.put, nA, nB, nC])
              refine wpAnyM_take 7 (v := ?_) rfl (by kernel_rfl) (fun _ _ _ h => h) (Or.inl ⟨by rfl, ?_⟩) (by assumption) ?_
              rotate_left
              · (intro wx hSw; (try dsimp only at hSw); go_simp; (try with_reducible rfl))
              (try simp only [Act.put, nA, nB, nC])
              refine wpAnyM_take 8 (v := ?_) rfl (by kernel_rfl) (fun _ _ _ h => h) (Or.inl ⟨by rfl, ?_⟩) (by assumption) ?_
              rotate_left
              · (intro wx hSw; (try dsimp only at hSw); go_simp; (try with_reducible rfl))
              (try simp only [Act.put, nA, nB, nC])
              refine wpAnyM_take 9 (v := ?_) rfl (by kernel_rfl) (fun _ _ _ h => h) (Or.inl ⟨by rfl, ?_⟩) (by assumption) ?_
              rotate_left
              · (intro wx hSw; (try dsimp only at hSw); go_simp; (try with_reducible rfl))
              (try simp only [Act.put, nA, nB, nC])
              refine wpAnyM_take 10 (v := ?_) rfl (by kernel_rfl) (fun _ _ _ h => h) (Or.inl ⟨by rfl, ?_⟩) (by assumption) ?_
              rotate_left
              · (intro wx hSw; (try dsimp only at hSw); go_simp; (try with_reducible rfl))
              (try simp only [Act.put, nA, nB, nC])
              refine wpAnyM_oneS 11 rfl (by kernel_rfl) (fun K hK => ?_)
              go_simp
              (refine MC.out.mono ?_); rintro e w7 ⟨rfl, hu7⟩; have L7 := Lib.hid (HL6.out.upd' hcb (Upd.after (Below.drew (Below.refl _ _)) hu7)); have m0' := L7.out.a.pB.cell (i := 276 + j) (by omega); have m1' := L7.out.fB.cell (i := j) (by omega); (rw [EF.out] at m1'); have n0 := L7.out.vB.cell (i := j) (by omega); have n1 := L7.out.vB.free j; clear hu7 m0 m1
              (try dsimp only)
              (try simp only [Act.put, nA, nB, nC])
              clear hHeld
              refine hK.out _ _ ?_ (fun hHeld => ?_)
              · exact ⟨m0', m1'⟩
              clear hK K
              (try simp only [Act.put, nA, nB, nC])
              refine wpAnyM_take 12 (v := ?_) rfl (by kernel_rfl) (fun _ _ _ h => h) (Or.inl ⟨by rfl, ?_⟩) (by assumption) ?_
              rotate_left
              · (intro wx hSw; (try dsimp only at hSw); go_simp; (try with_reducible rfl))
              (try simp only [Act.put, nA, nB, nC])
              refine wpAnyM_one 13 rfl (by kernel_rfl) (fun K hK => ?_)
              go_simp
              refine hK.out _ _ (.inl (by kernel_rfl)) (fun _ => ?_)
              clear hK K
              (try simp only [Act.put, nA, nB, nC])
              refine wpAnyM_done (by kernel_rfl) ?_ _
              obtain ⟨AV, hAV⟩ : ∃ x, bkA P S R j = x := ⟨_, rfl⟩
              obtain ⟨MV, hMV⟩ : ∃ x, mulV FV VV 30 = x := ⟨_, rfl⟩
              obtain ⟨MH, hMH⟩ : ∃ x, mulH FV VV 30 = x := ⟨_, rfl⟩
              obtain ⟨fl, e1, e2, e3⟩ := pr_flag EHJ.out EFV.out EFH.out EVV.out EVH.out hAV hMV hMH
              have eV : vS' P S (j + 1) j = VV := by unfold vS'; rw [if_pos (by omega)]; exact e2
              have eA : aS' P S R j j = AV := by unfold aS'; rw [if_pos (by omega)]; exact hAV
              have L8 : PrB c (HJ || FH || VH) P S fb vb ab (fS' P S (j + 1)) (vS' P S (j + 1)) (aS' P S R j) w (w7.setCell ⟨vb, j, none⟩ (.int .i64 VV)) := (L7.out.setV j VV).cong (fun _ _ => rfl) (fun x hx => by
                simp only [Go.Proofs.YtiajjiphknlldaaGreat.upd]
                by_cases h1 : x = j
                · subst h1; rw [if_pos rfl, eV]
                · rw [if_neg h1]; unfold vS'; split <;> split <;> first | rfl | omega) (fun _ _ => rfl)
              generalize w7.setCell ⟨vb, j, none⟩ (.int .i64 VV) = W8 at *
              have a0 := L8.aB.cell (i := j) (by omega)
              have a1 := L8.fB.cell (i := j) (by omega)
              have a2 := L8.vB.cell (i := j) (by omega)
              rw [eA] at a0
              rw [EF.out] at a1
              rw [eV] at a2
              have rc := L8.a.upd.cellc HC.out
              have rf := (L8.a.upd.frozen hcb).trans HF.out
              have MC := Lib.hid (rm_any c _ FV VV W8.drew rc rf)
              rw [hMV, hMH] at MC
              have HL8 := Lib.hid L8
              have EV := Lib.hid eV
              have EA := Lib.hid eA
              have EFL := Lib.hid fl
              have E3 := Lib.hid e3
              clear n0 n1 L7 L8 HL6 rc hMV hMH hAV fl e1 e2 e3 eV eA m0' m1' EHJ EFH EVH EFV EVV
              have k2 : (j : Int) < 25 := by omega
              have k3 : (0 : Int) ≤ (j : Int) + 1 := by omega
              have k4 : (j : Int) + 1 < 25 := by omega
              have k5 : ((j : Int) + 1).toNat = j + 1 := by omega
              go_upto_region 20 with fail
              refine wp_region_M (fun w' => w'.cell? ⟨ab, j, none⟩ = some (.int .i64 AV) ∧ w'.cell? ⟨fb, j, none⟩ = some (.int .i64 FV) ∧ w'.cell? ⟨vb, j, none⟩ = some (.int .i64 VV)) 20 (by kernel_rfl) ?_ (fun hHeld => ?_)
              · exact ⟨a0, a1, a2⟩
              refine wpAnyM_take 0 (v := ?_) rfl (by kernel_rfl) (fun _ _ _ h => h) (Or.inl ⟨by rfl, ?_⟩) (by assumption) ?_
              rotate_left
              · (intro wx hSw; (try dsimp only at hSw); go_simp; (try with_reducible rfl))
              (try simp only [Act.put, nA, nB, nC])
              refine wpAnyM_take 1 (v := ?_) rfl (by kernel_rfl) (fun _ _ _ h => h) (Or.inl ⟨by rfl, ?_⟩) (by assumption) ?_
              rotate_left
              · (intro wx hSw; (try dsimp only at hSw); go_simp; (try with_reducible rfl))
              (try simp only [Act.put, nA, nB, nC])
              refine wpAnyM_take 2 (v := ?_) rfl (by kernel_rfl) (fun _ _ _ h => h) (Or.inl ⟨by rfl, ?_⟩) (by assumption) ?_
              rotate_left
              · (intro wx hSw; (try dsimp only at hSw); go_simp; (try with_reducible rfl))
              (try simp only [Act.put, nA, nB, nC])
              refine wpAnyM_take 3 (v := ?_) rfl (by kernel_rfl) (fun _ _ _ h => h) (Or.inl ⟨by rfl, ?_⟩) (by assumption) ?_
              rotate_left
              · (intro wx hSw; (try dsimp only at hSw); go_simp; (try with_reducible rfl))
              (try simp only [Act.put, nA, nB, nC])
              refine wpAnyM_take 4 (v := ?_) rfl (by kernel_rfl) (fun _ _ _ h => h) (Or.inl ⟨by rfl, ?_⟩) (by assumption) ?_
              rotate_left
              · (intro wx hSw; (try dsimp only at hSw); go_simp; (try with_reducible rfl))
              (try simp only [Act.put, nA, nB, nC])
              refine wpAnyM_take 5 (v := ?_) rfl (by kernel_rfl) (fun _ _ _ h => h) (Or.inl ⟨by rfl, ?_⟩) (by assumption) ?_
              rotate_left
              · (intro wx hSw; (try dsimp only at hSw); go_simp; (try with_reducible rfl))
              (try simp only [Act.put, nA, nB, nC])
              refine wpAnyM_take 6 (v := ?_) rfl (by kernel_rfl) (fun _ _ _ h => h) (Or.inl ⟨by rfl, ?_⟩) (by assumption) ?_
              rotate_left
              · (intro wx hSw; (try dsimp only at hSw); go_simp; (try with_reducible rfl))
              (try simp only [Act.put, nA, nB, nC])
              refine wpAnyM_take 7 (v := ?_) rfl (by kernel_rfl) (fun _ _ _ h => h) (Or.inl ⟨by rfl, ?_⟩) (by assumption) ?_
              rotate_left
              · (intro wx hSw; (try dsimp only at hSw); go_simp; (try with_reducible rfl))
              (try simp only [Act.put, nA, nB, nC])
              refine wpAnyM_take 8 (v := ?_) rfl (by kernel_rfl) (fun _ _ _ h => h) (Or.inl ⟨by rfl, ?_⟩) (by assumption) ?_
              rotate_left
              · (intro wx hSw; (try dsimp only at hSw); go_simp; (try with_reducible rfl))
              (try simp only [Act.put, nA, nB, nC])
              refine wpAnyM_take 9 (v := ?_) rfl (by kernel_rfl) (fun _ _ _ h => h) (Or.inl ⟨by rfl, ?_⟩) (by assumption) ?_
              rotate_left
              · (intro wx hSw; (try dsimp only at hSw); go_simp; (try with_reducible rfl))
              (try simp only [Act.put, nA, nB, nC])
              refine wpAnyM_take 10 (v := ?_) rfl (by kernel_rfl) (fun _ _ _ h => h) (Or.inl ⟨by rfl, ?_⟩) (by assumption) ?_
              rotate_left
              · (intro wx hSw; (try dsimp only at hSw); go_simp; (try with_reducible rfl))
              (try simp only [Act.put, nA, nB, nC])
              refine wpAnyM_take 11 (v := ?_) rfl (by kernel_rfl) (fun _ _ _ h => h) (Or.inl ⟨by rfl, ?_⟩) (by assumption) ?_
              rotate_left
              · (intro wx hSw; (try dsimp only at hSw); go_simp; (try with_reducible rfl))
              (try simp only [Act.put, nA, nB, nC])
              refine wpAnyM_take 12 (v := ?_) rfl (by kernel_rfl) (fun _ _ _ h => h) (Or.inl ⟨by rfl, ?_⟩) (by assumption) ?_
              rotate_left
              · (intro wx hSw; (try dsimp only at hSw); go_simp; (try with_reducible rfl))
              (try simp only [Act.put, nA, nB, nC])
              refine wpAnyM_take 13 (v := ?_) rfl (by kernel_rfl) (fun _ _ _ h => h) (Or.inl ⟨by rfl, ?_⟩) (by assumption) ?_
              rotate_left
              · (intro wx hSw; (try dsimp only at hSw); go_simp; (try with_reducible rfl))
              (try simp only [Act.put, nA, nB, nC])
              refine wpAnyM_take 14 (v := ?_) rfl (by kernel_rfl) (fun _ _ _ h => h) (Or.inl ⟨by rfl, ?_⟩) (by assumption) ?_
              rotate_left
              · (intro wx hSw; (try dsimp only at hSw); go_simp; (try with_reducible rfl))
              (try simp only [Act.put, nA, nB, nC])
              refine wpAnyM_take 15 (v := ?_) rfl (by kernel_rfl) (fun _ _ _ h => h) (Or.inl ⟨by rfl, ?_⟩) (by assumption) ?_
              rotate_left
              · (intro wx hSw; (try dsimp only at hSw); go_simp; (try with_reducible rfl))
              (try simp only [Act.put, nA, nB, nC])
              refine wpAnyM_take 16 (v := ?_) rfl (by kernel_rfl) (fun _ _ _ h => h) (Or.inl ⟨by rfl, ?_⟩) (by assumption) ?_
              rotate_left
              · (intro wx hSw; (try dsimp only at hSw); go_simp; (try with_reducible rfl))
              (try simp only [Act.put, nA, nB, nC])
              refine wpAnyM_oneS 17 rfl (by kernel_rfl) (fun K hK => ?_)
              go_simp
              (refine MC.out.mono ?_); rintro e w9 ⟨rfl, hu9⟩; have L9 := Lib.hid (HL8.out.upd' hcb (Upd.after (Below.drew (Below.refl _ _)) hu9)); have kp := (show _ ∧ _ ∧ _ from ⟨(L9.out.aB.cell (i := j) (by omega)).trans (by rw [EA.out]), (L9.out.fB.cell (i := j) (by omega)).trans (by rw [EF.out]), (L9.out.vB.cell (i := j) (by omega)).trans (by rw [EV.out])⟩); have kc := L9.out.a.upd.cellc HC.out; have kf := (L9.out.a.upd.frozen hcb).trans HF.out; clear hu9 a0 a1 a2
              (try dsimp only)
              (try simp only [Act.put, nA, nB, nC])
              clear hHeld
              refine hK.out _ _ ?_ (fun hHeld => ?_)
              · exact kp
              clear hK K
              (try simp only [Act.put, nA, nB, nC])
              refine wpAnyM_oneS 18 rfl (by kernel_rfl) (fun K hK => ?_)
              go_simp
              (refine (rplus_any c _ AV MV _ kc kf).mono ?_); rintro e w10 ⟨rfl, hw10⟩; have U10 : Upd c (HJ || FH || VH || MH || addH AV MV) w9 w10 := (by rw [← hw10, show (HJ || FH || VH || MH || addH AV MV) = (HJ || FH || VH || MH || satH AV || satH MV || satH (satV AV + satV MV)) from by simp only [addH, Bool.or_assoc]]; exact Upd.set c _ _); have LA := Lib.hid (L9.out.upd' hcb U10); have kp2 := (show _ ∧ _ ∧ _ from ⟨(LA.out.aB.cell (i := j) (by omega)).trans (by rw [EA.out]), (LA.out.fB.cell (i := j) (by omega)).trans (by rw [EF.out]), (LA.out.vB.cell (i := j) (by omega)).trans (by rw [EV.out])⟩); have n0 := LA.out.aB.cell (i := j + 1) (by omega); have n1 := LA.out.aB.free (j + 1); clear hw10 U10
              (try dsimp only)
              (try simp only [Act.put, nA, nB, nC])
              clear hHeld
              refine hK.out _ _ ?_ (fun hHeld => ?_)
              · exact kp2
              clear hK K
              (try simp only [Act.put, nA, nB, nC])
              refine wpAnyM_take 19 (v := ?_) rfl (by kernel_rfl) (fun _ _ _ h => h) (Or.inl ⟨by rfl, ?_⟩) (by assumption) ?_
              rotate_left
              · (intro wx hSw; (try dsimp only at hSw); go_simp; (try with_reducible rfl))
              (try simp only [Act.put, nA, nB, nC])
              refine wpAnyM_one 20 rfl (by kernel_rfl) (fun K hK => ?_)
              go_simp
              refine hK.out _ _ (.inl (by kernel_rfl)) (fun _ => ?_)
              clear hK K
              (try simp only [Act.put, nA, nB, nC])
              refine wpAnyM_done (by kernel_rfl) ?_ _
              go_wp2_with fail
              go_roundw
              case rel =>
                refine ⟨j + 1, by omega, by go_num, ?_⟩
                rw [← EFL.out]
                refine Lib.hid ((LA.out.setA (j + 1) (addV AV MV)).cong (fun _ _ => rfl) (fun _ _ => rfl) (fun x hx => ?_))
                simp only [Go.Proofs.YtiajjiphknlldaaGreat.upd]
                by_cases h1 : x = j + 1
                · subst h1; rw [if_pos rfl]; unfold aS'; rw [if_pos (by omega), E3.out]
                · rw [if_neg h1]; unfold aS'; split <;> split <;> first | rfl | omega
              case measure => simp [intOf]; omega
        · have hj24 : j = 24 := by omega
          subst hj24
          rw [show ((24 : Nat) : Int) = 24 from rfl]
          clear hj hlt
          obtain ⟨FF, hFF⟩ : ∃ x, fS' P S 24 = x := ⟨_, rfl⟩
          obtain ⟨VF, hVF⟩ : ∃ x, vS' P S 24 = x := ⟨_, rfl⟩
          obtain ⟨AF, hAF⟩ : ∃ x, aS' P S R 24 = x := ⟨_, rfl⟩
          rw [hFF, hVF, hAF] at Q
          have Q0 := Q.out.below (Below.drew (Below.refl _ _))
          obtain ⟨HM0, k1⟩ := prep_rows Q0
          obtain ⟨HM1, Z1, k2⟩ := k1 _ rfl
          obtain ⟨HM2, Z2, k3⟩ := k2 _ rfl
          obtain ⟨HM3, Z3, k4⟩ := k3 _ rfl
          obtain ⟨HM4, UE⟩ := k4 _ rfl
          have HM0 := Lib.hid HM0
          have HM1 := Lib.hid HM1
          have HM2 := Lib.hid HM2
          have HM3 := Lib.hid HM3
          have HM4 := Lib.hid HM4
          have Z0 := Lib.hid Q0.a.z0
          have Z1 := Lib.hid Z1
          have Z2 := Lib.hid Z2
          have Z3 := Lib.hid Z3
          have UE := Lib.hid UE
          have EE := Lib.hid (And.intro hFF (And.intro hVF hAF))
          clear Q0 Q k1 k2 k3 k4 hFF hVF hAF
          go_upto_region 21 with fail
          refine wp_region_M (fun w' => Blk w' w.heap.size 26 300 P ∧ Blk w' fb 22 24 FF ∧ Blk w' vb 22 24 VF ∧ Blk w' ab 89 25 AF) 7 (by kernel_rfl) ?_ (fun hHeld => ?_)
          · exact HM0.out
          refine wpAnyM_take 0 (v := ?_) rfl (by kernel_rfl) (fun _ _ _ h => h) (Or.inl ⟨by rfl, ?_⟩) (by assumption) ?_
          rotate_left
          · (intro wx hSw; refine Eq.trans (run_load_row 26 (.tmp 5) (by rfl) (w.heap.size) (by rfl) _ _ _ _ (hSw.1) Tryz.underlying26 rfl (icov.trans (by rw [arrv_size]))) ?_; with_reducible rfl)
          (try simp only [Act.put, nA, nB, nC])
          refine wpAnyM_take 1 (v := ?_) rfl (by kernel_rfl) (fun _ _ _ h => h) (Or.inl ⟨by rfl, ?_⟩) (by assumption) ?_
          rotate_left
          · (intro wx hSw; refine Eq.trans (run_load_row 22 (.tmp 13) (by rfl) (fb) (by rfl) _ _ _ _ (hSw.2.1) Tryz.underlying22 rfl (icol.trans (by rw [arrv_size]))) ?_; with_reducible rfl)
          (try simp only [Act.put, nA, nB, nC])
          refine wpAnyM_take 2 (v := ?_) rfl (by kernel_rfl) (fun _ _ _ h => h) (Or.inl ⟨by rfl, ?_⟩) (by assumption) ?_
          rotate_left
          · (intro wx hSw; refine Eq.trans (run_load_row 22 (.tmp 14) (by rfl) (vb) (by rfl) _ _ _ _ (hSw.2.2.1) Tryz.underlying22 rfl (icol.trans (by rw [arrv_size]))) ?_; with_reducible rfl)
          (try simp only [Act.put, nA, nB, nC])
          refine wpAnyM_take 3 (v := ?_) rfl (by kernel_rfl) (fun _ _ _ h => h) (Or.inl ⟨by rfl, ?_⟩) (by assumption) ?_
          rotate_left
          · (intro wx hSw; refine Eq.trans (run_load_row 89 (.tmp 15) (by rfl) (ab) (by rfl) _ _ _ _ (hSw.2.2.2) Tryz.underlying89 rfl (ia25.trans (by rw [arrv_size]))) ?_; with_reducible rfl)
          (try simp only [Act.put, nA, nB, nC])
          refine wpAnyM_oneS 4 rfl (by kernel_rfl) (fun K hK => ?_)
          go_simp; rw [if_pos (arrv_size _ _), run_storeCells_row _ Z0.out]; go_simp
          clear hHeld
          refine hK.out _ _ ?_ (fun hHeld => ?_)
          · exact HM1.out
          clear hK K
          (try simp only [Act.put, nA, nB, nC])
          refine wpAnyM_oneS 5 rfl (by kernel_rfl) (fun K hK => ?_)
          go_simp; rw [if_pos (arrv_size _ _), run_storeCells_row _ Z1.out]; go_simp
          clear hHeld
          refine hK.out _ _ ?_ (fun hHeld => ?_)
          · exact HM2.out
          clear hK K
          (try simp only [Act.put, nA, nB, nC])
          refine wpAnyM_oneS 6 rfl (by kernel_rfl) (fun K hK => ?_)
          go_simp; rw [if_pos (arrv_size _ _), run_storeCells_row _ Z2.out]; go_simp
          clear hHeld
          refine hK.out _ _ ?_ (fun hHeld => ?_)
          · exact HM3.out
          clear hK K
          (try simp only [Act.put, nA, nB, nC])
          refine wpAnyM_one 7 rfl (by kernel_rfl) (fun K hK => ?_)
          go_simp; rw [if_pos (arrv_size _ _), run_storeCells_row _ Z3.out]; go_simp
          refine hK.out _ _ (.inl (by kernel_rfl)) (fun _ => ?_)
          clear hK K
          (try simp only [Act.put, nA, nB, nC])
          refine wpAnyM_done (by kernel_rfl) ?_ _
          (try clear hHeld)
          go_wp2_with fail
          refine bodyPost_ret (results_rows4 Tryz.results50 _ _ (w.heap.size + 1 + 1) (w.heap.size + 1 + 1 + 1) (w.heap.size + 1 + 1 + 1 + 1) (w.heap.size + 1 + 1 + 1 + 1 + 1) 26 22 22 89 (arrv 300 P) (arrv 24 FF) (arrv 24 VF) (arrv 25 AF) (0, 0) (0, 0) (0, 0) (0, 0) _ _ _ _
            rfl HM4.out.1 Tryz.underlying26 rfl (icov.trans (by rw [arrv_size])) rfl HM4.out.2.1 Tryz.underlying22 rfl (icol.trans (by rw [arrv_size])) rfl HM4.out.2.2.1 Tryz.underlying22 rfl (icol.trans (by rw [arrv_size])) rfl HM4.out.2.2.2 Tryz.underlying89 rfl (ia25.trans (by rw [arrv_size]))) rfl ⟨?_, ?_⟩
          · rw [EP.out, ES.out, ER.out]
            have r1 : arrv 24 (bkF P S) = arrv 24 FF := arrv_congr fun x hx => by rw [← EE.out.1]; unfold fS'; rw [if_pos hx]
            have r2 : arrv 24 (bkV P S) = arrv 24 VF := arrv_congr fun x hx => by rw [← EE.out.2.1]; unfold vS'; rw [if_pos hx]
            have r3 : arrv 25 (bkA P S R) = arrv 25 AF := arrv_congr fun x hx => by rw [← EE.out.2.2]; unfold aS'; rw [if_pos (by omega)]
            rw [r1, r2, r3]
          · have e : (h || lkH p H r) = (H3 || orB (bkS P S R) 24) := by
              rw [← EH3.out, ← EH2.out, ← EH1.out]
              unfold lkH
              rw [EP.out, ES.out, ER.out]
              simp only [Bool.or_assoc]
            rw [e]
            exact UE.out
end Go.Proofs.YtiajjiphknlldaaGreat
/- The reference's Innovation; what its Update writes, in its own order. -/
namespace Go.Proofs.YtiajjiphknlldaaGreat
open Go.RowKit
set_option maxRecDepth 100000
/-- Four rows laid behind prepared's answer. -/
theorem prep_new (x : World) (P F V A : Nat → Int) : ∀ (X0 : World), X0 = (((x.alloc (.cells Tryz.zeroCells26 26)).alloc (.cells #[.int .i64 0, .int .i64 0, .int .i64 0, .int .i64 0, .int .i64 0, .int .i64 0, .int .i64 0, .int .i64 0, .int .i64 0, .int .i64 0, .int .i64 0, .int .i64 0, .int .i64 0, .int .i64 0, .int .i64 0, .int .i64 0, .int .i64 0, .int .i64 0, .int .i64 0, .int .i64 0, .int .i64 0, .int .i64 0, .int .i64 0, .int .i64 0] 22)).alloc (.cells #[.int .i64 0, .int .i64 0, .int .i64 0, .int .i64 0, .int .i64 0, .int .i64 0, .int .i64 0, .int .i64 0, .int .i64 0, .int .i64 0, .int .i64 0, .int .i64 0, .int .i64 0, .int .i64 0, .int .i64 0, .int .i64 0, .int .i64 0, .int .i64 0, .int .i64 0, .int .i64 0, .int .i64 0, .int .i64 0, .int .i64 0, .int .i64 0] 22)).alloc (.cells #[.int .i64 0, .int .i64 0, .int .i64 0, .int .i64 0, .int .i64 0, .int .i64 0, .int .i64 0, .int .i64 0, .int .i64 0, .int .i64 0, .int .i64 0, .int .i64 0, .int .i64 0, .int .i64 0, .int .i64 0, .int .i64 0, .int .i64 0, .int .i64 0, .int .i64 0, .int .i64 0, .int .i64 0, .int .i64 0, .int .i64 0, .int .i64 0, .int .i64 0] 89) →
    Blk X0 x.heap.size 26 300 (fun _ => 0) ∧ ∀ (X1 : World), X1 = X0.setRow x.heap.size (arrv 300 P) →
      Blk X1 (x.heap.size + 1) 22 24 (fun _ => 0) ∧ ∀ (X2 : World), X2 = X1.setRow (x.heap.size + 1) (arrv 24 F) →
        Blk X2 (x.heap.size + 1 + 1) 22 24 (fun _ => 0) ∧ ∀ (X3 : World), X3 = X2.setRow (x.heap.size + 1 + 1) (arrv 24 V) →
          Blk X3 (x.heap.size + 1 + 1 + 1) 89 25 (fun _ => 0) ∧ ∀ (X4 : World), X4 = X3.setRow (x.heap.size + 1 + 1 + 1) (arrv 25 A) →
            Blk X4 (x.heap.size + 1 + 1 + 1) 89 25 A ∧ Below x.heap.size x X4 := by
  rintro X0 rfl
  rw [zcov, zcol, z25]
  have Z0 := ((Blk.new x 26 300 (fun _ => 0)).alloc (.cells (arrv 24 (fun _ => 0)) 22)).alloc (.cells (arrv 24 (fun _ => 0)) 22) |>.alloc (.cells (arrv 25 (fun _ => 0)) 89)
  have Z1 := ((Blk.new1 x (.cells (arrv 300 (fun _ => 0)) 26) 22 24 (fun _ => 0)).alloc (.cells (arrv 24 (fun _ => 0)) 22)).alloc (.cells (arrv 25 (fun _ => 0)) 89)
  have Z2 := (blk_new2 x (.cells (arrv 300 (fun _ => 0)) 26) (.cells (arrv 24 (fun _ => 0)) 22) 22 24 (fun _ => 0)).alloc (.cells (arrv 25 (fun _ => 0)) 89)
  have Z3 := blk_new3 x (.cells (arrv 300 (fun _ => 0)) 26) (.cells (arrv 24 (fun _ => 0)) 22) (.cells (arrv 24 (fun _ => 0)) 22) 89 25 (fun _ => 0)
  refine ⟨Z0, ?_⟩
  rintro X1 rfl
  refine ⟨Z1.setRow_other _ (by omega), ?_⟩
  rintro X2 rfl
  refine ⟨(Z2.setRow_other _ (by omega)).setRow_other _ (by omega), ?_⟩
  rintro X3 rfl
  refine ⟨((Z3.setRow_other _ (by omega)).setRow_other _ (by omega)).setRow_other _ (by omega), ?_⟩
  rintro X4 rfl
  refine ⟨(((Z3.setRow_other _ (by omega)).setRow_other _ (by omega)).setRow_other _ (by omega)).setRow _, ?_⟩
  exact below_row (below_row (below_row (below_row (by (repeat (first | with_reducible exact Below.refl _ _ | with_reducible apply Below.drew | (with_reducible refine below_drewN ?_ _) | (with_reducible refine Below.alloc ?_ (by (try simp) <;> omega) _) | (with_reducible refine Below.setCell ?_ (by (try simp) <;> omega) _)))) (by omega) _) (by omega) _) (by omega) _) (by omega) _
set_option maxHeartbeats 2000000 in
theorem rinno_any (c : Addr) (h : Bool) (p H : Nat → Int) (r : Int) (w : World) (hc : w.cell? c = some (.bool h)) (hf : w.frozen? c = false) :
    Calls Tryz.prog 23 #[.pointer (some c), .agg (arrv 300 p), .agg (arrv 24 H), .int .i64 r] w fun e w' =>
      e = .returned (.int .i64 (updS p H r)) ∧ Upd c (h || lkH p H r) w w' := by
  have hcb := World.block_lt_of_cell? w c hc
  have HC := Lib.hid hc
  have HF := Lib.hid hf
  clear hc hf
  go_enter Tryz.func23, Tryz.ntmps23
  have P0 : Blk ((w.alloc (.cells (arrv 300 p) 26)).alloc (.cells (arrv 24 H) 22)) w.heap.size 26 300 p := (Blk.new w _ _ _).alloc _
  have R0 : Blk ((w.alloc (.cells (arrv 300 p) 26)).alloc (.cells (arrv 24 H) 22)) (w.heap.size + 1) 22 24 H := Blk.new1 w _ _ _ _
  have U0 : Upd c h w ((w.alloc (.cells (arrv 300 p) 26)).alloc (.cells (arrv 24 H) 22)) := Upd.then (Upd.refl HC.out) (by (repeat (first | with_reducible exact Below.refl _ _ | with_reducible apply Below.drew | (with_reducible refine below_drewN ?_ _) | (with_reducible refine Below.alloc ?_ (by (try simp) <;> omega) _) | (with_reducible refine Below.setCell ?_ (by (try simp) <;> omega) _))))
  go_upto_region 1 with fail
  generalize (w.alloc (.cells (arrv 300 p) 26)).alloc (.cells (arrv 24 H) 22) = W0 at *
  have PC := Lib.hid (rprep_any c h p H r W0 (U0.cellc HC.out) ((U0.frozen hcb).trans HF.out))
  have HU0 := Lib.hid U0
  clear U0
  obtain ⟨F, hF⟩ : ∃ x, bkF (condF p) (satS H 24) = x := ⟨_, rfl⟩
  obtain ⟨V, hV⟩ : ∃ x, bkV (condF p) (satS H 24) = x := ⟨_, rfl⟩
  obtain ⟨A, hA⟩ : ∃ x, bkA (condF p) (satS H 24) (varV r) = x := ⟨_, rfl⟩
  rw [hF, hV, hA] at PC
  have ES := Lib.hid (show updS p H r = A 24 by rw [← hA, updS])
  clear hF hV hA
  refine wp_region_lit ?_
  refine wpList_val (v := ?_) rfl ?_ ?_
  rotate_left
  · (go_simp; (try (first | with_reducible rfl | (constructor <;> with_reducible rfl))))
  (try simp only [Act.put, nA, nB, nC])
  refine wpList_val (v := ?_) rfl ?_ ?_
  rotate_left
  · refine Eq.trans (run_load_row 26 (.tmp 5) (by rfl) (w.heap.size) (by rfl) _ _ _ _ (P0) Tryz.underlying26 rfl (icov.trans (by rw [arrv_size]))) ?_; with_reducible rfl
  (try simp only [Act.put, nA, nB, nC])
  refine wpList_val (v := ?_) rfl ?_ ?_
  rotate_left
  · refine Eq.trans (run_load_row 22 (.tmp 6) (by rfl) (w.heap.size + 1) (by rfl) _ _ _ _ (R0) Tryz.underlying22 rfl (icol.trans (by rw [arrv_size]))) ?_; with_reducible rfl
  (try simp only [Act.put, nA, nB, nC])
  refine wpList_val (v := ?_) rfl ?_ ?_
  rotate_left
  · (go_simp; (try (first | with_reducible rfl | (constructor <;> with_reducible rfl))))
  (try simp only [Act.put, nA, nB, nC])
  refine wpList_step (fun K hK => ?_)
  go_simp
  (refine PC.out.mono ?_); rintro e w1 ⟨rfl, hu1⟩; have HU1 := Lib.hid hu1; clear hu1; obtain ⟨N0, n1⟩ := prep_new w1 (condF p) F V A _ rfl; obtain ⟨N1, n2⟩ := n1 _ rfl; obtain ⟨N2, n3⟩ := n2 _ rfl; obtain ⟨N3, n4⟩ := n3 _ rfl; obtain ⟨N4, NB⟩ := n4 _ rfl; clear n1 n2 n3 n4
  (try dsimp only)
  (try simp only [Act.put, nA, nB, nC])
  refine hK _ _ ?_
  clear hK K
  refine wpList_val (v := ?_) rfl ?_ ?_
  rotate_left
  · (go_simp; (try (first | with_reducible rfl | (constructor <;> with_reducible rfl))))
  (try simp only [Act.put, nA, nB, nC])
  refine wpList_val (v := ?_) rfl ?_ ?_
  rotate_left
  · (go_simp; (try (first | with_reducible rfl | (constructor <;> with_reducible rfl))))
  (try simp only [Act.put, nA, nB, nC])
  refine wpList_val (v := ?_) rfl ?_ ?_
  rotate_left
  · (go_simp; (try (first | with_reducible rfl | (constructor <;> with_reducible rfl))))
  (try simp only [Act.put, nA, nB, nC])
  refine wpList_val (v := ?_) rfl ?_ ?_
  rotate_left
  · (go_simp; (try (first | with_reducible rfl | (constructor <;> with_reducible rfl))))
  (try simp only [Act.put, nA, nB, nC])
  refine wpList_val (v := ?_) rfl ?_ ?_
  rotate_left
  · (go_simp; (try (first | with_reducible rfl | (constructor <;> with_reducible rfl))))
  (try simp only [Act.put, nA, nB, nC])
  refine wpList_act (v := ?_) (w' := ?_) rfl ?_ ?_
  rotate_left 2
  · (go_simp; (try (first | with_reducible rfl | (constructor <;> with_reducible rfl))))
  (try simp only [Act.put, nA, nB, nC])
  refine wpList_act (v := ?_) (w' := ?_) rfl ?_ ?_
  rotate_left 2
  · (go_simp; (try (first | with_reducible rfl | (constructor <;> with_reducible rfl))))
  (try simp only [Act.put, nA, nB, nC])
  refine wpList_act (v := ?_) (w' := ?_) rfl ?_ ?_
  rotate_left 2
  · (go_simp; (try (first | with_reducible rfl | (constructor <;> with_reducible rfl))))
  (try simp only [Act.put, nA, nB, nC])
  refine wpList_act (v := ?_) (w' := ?_) rfl ?_ ?_
  rotate_left 2
  · (go_simp; (try (first | with_reducible rfl | (constructor <;> with_reducible rfl))))
  (try simp only [Act.put, nA, nB, nC])
  refine wpList_done (w' := ?_) rfl ?_ ?_
  rotate_left
  · refine Eq.trans (run_store_row 26 (.tmp 9) (.tmp 19) (by rfl) (w1.heap.size) (by rfl) (by rfl) (N0) (icov.trans rfl)) ?_; with_reducible rfl
  (try simp only [Act.put, nA, nB, nC])
  refine wpList_done (w' := ?_) rfl ?_ ?_
  rotate_left
  · refine Eq.trans (run_store_row 22 (.tmp 10) (.tmp 20) (by rfl) (w1.heap.size + 1) (by rfl) (by rfl) (N1) (icol.trans rfl)) ?_; with_reducible rfl
  (try simp only [Act.put, nA, nB, nC])
  refine wpList_done (w' := ?_) rfl ?_ ?_
  rotate_left
  · refine Eq.trans (run_store_row 22 (.tmp 11) (.tmp 21) (by rfl) (w1.heap.size + 1 + 1) (by rfl) (by rfl) (N2) (icol.trans rfl)) ?_; with_reducible rfl
  (try simp only [Act.put, nA, nB, nC])
  refine wpList_done (w' := ?_) rfl ?_ ?_
  rotate_left
  · refine Eq.trans (run_store_row 89 (.tmp 12) (.tmp 22) (by rfl) (w1.heap.size + 1 + 1 + 1) (by rfl) (by rfl) (N3) (ia25.trans rfl)) ?_; with_reducible rfl
  (try simp only [Act.put, nA, nB, nC])
  refine wpList_nil ?_
  have s0 := N4.cell (i := 24) (by omega)
  have HN := Lib.hid NB
  clear N0 N1 N2 N3 N4 NB
  go_wp2_with fail
  go_ret
  exact ⟨retI ES.out.symm, HU0.out.trans (HU1.out.then HN.out)⟩
/-- Column j, in the reference's order: its m first numbers made, its D not yet. -/
def rOm (O p h : Nat → Int) (r : Int) (j : Nat) : Nat → Nat → Int | 0 => O | m + 1 => upd (rOm O p h r j m) (pl m j) (upU p h r j m)
theorem pl_in2 {i j i' j' : Nat} (h : i < j) (h' : i' < j') (e : pl i j = pl i' j') : i = i' ∧ j = j' := by
  have key : ∀ a b : Nat, a < b → a * (a - 1) / 2 + a ≤ b * (b - 1) / 2 := by
    intro a b hab
    have h1 : (a + 1) * a ≤ b * (b - 1) := Nat.mul_le_mul (by omega) (by omega)
    have h2 : a * (a - 1) + 2 * a = (a + 1) * a := by
      cases a with
      | zero => rfl
      | succ n => rw [Nat.add_sub_cancel, Nat.mul_comm 2, ← Nat.mul_add, Nat.mul_comm]
    omega
  unfold pl at e
  rcases Nat.lt_trichotomy j j' with hj | hj | hj
  · have := key j j' hj; omega
  · subst hj; omega
  · have := key j' j hj; omega
theorem rOm_D (O p h : Nat → Int) (r : Int) {j : Nat} (hj : j < 24) (d : Int) : ∀ m, m ≤ j → upd (rOm O p h r j m) (276 + j) (upD p h r j) = upOm O p h r j m
  | 0, _ => rfl
  | m + 1, hm => by
    have hp := pl_lt (i := m) (j := j) (by omega) hj
    simp only [upOm, rOm]
    rw [← rOm_D O p h r hj d m (by omega)]
    funext x
    simp only [upd]
    split <;> split <;> first | rfl | omega
theorem rOm_at (O p h : Nat → Int) (r : Int) {j : Nat} (hj : j < 24) : ∀ m, m ≤ j → (∀ x, 276 ≤ x → rOm O p h r j m x = O x) ∧ (∀ i j', i < j' → j' < 24 → (j' ≠ j ∨ m ≤ i) → rOm O p h r j m (pl i j') = O (pl i j'))
  | 0, _ => ⟨fun _ _ => rfl, fun _ _ _ _ _ => rfl⟩
  | m + 1, hm => by
    obtain ⟨h1, h2⟩ := rOm_at O p h r hj m (by omega)
    have hp := pl_lt (i := m) (j := j) (by omega) hj
    refine ⟨fun x hx => ?_, fun i j' hi hj' hor => ?_⟩
    · simp only [rOm, upd]; rw [if_neg (by omega)]; exact h1 x hx
    · simp only [rOm, upd]
      rw [if_neg (fun e => by have := pl_in2 hi (show m < j by omega) e; omega)]
      exact h2 i j' hi hj' (by omega)
/-- What the columns from j on are, when j are done: as they were. -/
theorem upO_keep (p h : Nat → Int) (r : Int) : ∀ j, j ≤ 24 → (∀ i, j ≤ i → i < 24 → upO p h r j (276 + i) = p (276 + i)) ∧ (∀ i j', i < j' → j' < 24 → j ≤ j' → upO p h r j (pl i j') = p (pl i j'))
  | 0, _ => ⟨fun _ _ _ => rfl, fun _ _ _ _ _ => rfl⟩
  | j + 1, hj => by
    obtain ⟨h1, h2⟩ := upO_keep p h r j (by omega)
    obtain ⟨g1, g2⟩ := rOm_at (upO p h r j) p h r (show j < 24 by omega) j (Nat.le_refl _)
    have e := rOm_D (upO p h r j) p h r (show j < 24 by omega) 0 j (Nat.le_refl _)
    refine ⟨fun i hi hi' => ?_, fun i j' hi hj' hjj => ?_⟩
    · show upOm (upO p h r j) p h r j j (276 + i) = _
      rw [← e]; simp only [upd]; rw [if_neg (by omega), g1 _ (by omega)]; exact h1 i (by omega) hi'
    · have hp := pl_lt hi hj'
      show upOm (upO p h r j) p h r j j (pl i j') = _
      rw [← e]; simp only [upd]; rw [if_neg (by omega), g2 i j' hi hj' (by omega)]; exact h2 i j' hi hj' (by omega)
/-- What the reference reads in column j. -/
theorem rOm_uV (p h : Nat → Int) (r : Int) {i j : Nat} (hj : j < 24) (hi : i < j) : uV (rOm (upO p h r j) p h r j i) i j = uV p i j := by
  unfold uV
  have h0 : ¬ i = j := by omega
  rw [if_neg h0, if_neg h0, if_pos hi, if_pos hi]
  rw [(rOm_at _ p h r hj i (by omega)).2 i j hi hj (by omega)]
  exact (upO_keep p h r j (by omega)).2 i j hi hj (by omega)
end Go.Proofs.YtiajjiphknlldaaGreat
/- The reference's Update: its blocks. -/
namespace Go.Proofs.YtiajjiphknlldaaGreat
open Go.RowKit
set_option maxRecDepth 100000
open Go in
/-- The results of a function that gives two rows and a number. -/
theorem results_two {P : Program} {fn : Func} {p q u : Tmp} {ty ty' : TypeId} (h : fn.results = #[.cell p ty, .cell q ty', .tmp u]) (tmps : Array Value) (w : World) (g g' : Nat) (t t' : TypeId) (cs cs' : Array Value) (fr fr' : Nat × Nat) (d d' : TypeDesc)
    (hp : tmps.getD p undef = .pointer (some ⟨g, 0, none⟩)) (hg : w.heap[g]? = some (.cells cs t fr))
    (hu : P.underlying ty = some d) (hd : (match d with | .struct _ | .array _ _ => true | _ => false) = true) (hi : (P.info? ty).map (·.size) = some cs.size)
    (hp' : tmps.getD q undef = .pointer (some ⟨g', 0, none⟩)) (hg' : w.heap[g']? = some (.cells cs' t' fr'))
    (hu' : P.underlying ty' = some d') (hd' : (match d' with | .struct _ | .array _ _ => true | _ => false) = true) (hi' : (P.info? ty').map (·.size) = some cs'.size)
    (v : Value) (hv : tmps.getD u undef = v) :
    (results fn tmps).run P w = .ok (.tuple #[.agg cs, .agg cs', v]) w := by
  have e1 : tmps[p]?.getD undef = .pointer (some ⟨g, 0, none⟩) := by simpa using hp
  have e2 : tmps[q]?.getD undef = .pointer (some ⟨g', 0, none⟩) := by simpa using hp'
  have e3 : tmps[u]?.getD undef = v := by simpa using hv
  simp [results, h, e1, e2, e3, asAddr, run_loadVar_row w g t ty cs fr d hg hu hd hi, run_loadVar_row w g' t' ty' cs' fr' d' hg' hu' hd' hi']
theorem divV_bd2 (a b s : Int) : -1152921504606846976 ≤ divV a b s ∧ divV a b s ≤ 1152921504606846976 := by
  unfold divV byV
  split
  · omega
  · split
    · split
      · omega
      · split <;> omega
    · exact satV_bd _
/-- Rows laid behind prepared's answer in Update. -/
theorem upd_new (x : World) (b : Nat) (p0 P F V A : Nat → Int) (hb : Blk x b 26 300 p0) : ∀ (X0 : World), X0 = ((x.alloc (.cells #[.int .i64 0, .int .i64 0, .int .i64 0, .int .i64 0, .int .i64 0, .int .i64 0, .int .i64 0, .int .i64 0, .int .i64 0, .int .i64 0, .int .i64 0, .int .i64 0, .int .i64 0, .int .i64 0, .int .i64 0, .int .i64 0, .int .i64 0, .int .i64 0, .int .i64 0, .int .i64 0, .int .i64 0, .int .i64 0, .int .i64 0, .int .i64 0] 22)).alloc (.cells #[.int .i64 0, .int .i64 0, .int .i64 0, .int .i64 0, .int .i64 0, .int .i64 0, .int .i64 0, .int .i64 0, .int .i64 0, .int .i64 0, .int .i64 0, .int .i64 0, .int .i64 0, .int .i64 0, .int .i64 0, .int .i64 0, .int .i64 0, .int .i64 0, .int .i64 0, .int .i64 0, .int .i64 0, .int .i64 0, .int .i64 0, .int .i64 0] 22)).alloc (.cells #[.int .i64 0, .int .i64 0, .int .i64 0, .int .i64 0, .int .i64 0, .int .i64 0, .int .i64 0, .int .i64 0, .int .i64 0, .int .i64 0, .int .i64 0, .int .i64 0, .int .i64 0, .int .i64 0, .int .i64 0, .int .i64 0, .int .i64 0, .int .i64 0, .int .i64 0, .int .i64 0, .int .i64 0, .int .i64 0, .int .i64 0, .int .i64 0, .int .i64 0] 89) →
    Blk X0 b 26 300 p0 ∧ ∀ (X1 : World), X1 = X0.setRow b (arrv 300 P) →
      Blk X1 x.heap.size 22 24 (fun _ => 0) ∧ ∀ (X2 : World), X2 = X1.setRow x.heap.size (arrv 24 F) →
        Blk X2 (x.heap.size + 1) 22 24 (fun _ => 0) ∧ ∀ (X3 : World), X3 = X2.setRow (x.heap.size + 1) (arrv 24 V) →
          Blk X3 (x.heap.size + 1 + 1) 89 25 (fun _ => 0) ∧ ∀ (X4 : World), X4 = X3.setRow (x.heap.size + 1 + 1) (arrv 25 A) →
            Blk X4 b 26 300 P ∧ Blk X4 x.heap.size 22 24 F ∧ Blk X4 (x.heap.size + 1) 22 24 V ∧ Blk X4 (x.heap.size + 1 + 1) 89 25 A ∧ Below b x X4 ∧
            (∀ (k T n : Nat) (f : Nat → Int), k ≠ b → Blk x k T n f → Blk X4 k T n f) := by
  have hl := hb.lt
  rintro X0 rfl
  rw [zcol, z25]
  have Z1 := ((Blk.new x 22 24 (fun _ => 0)).alloc (.cells (arrv 24 (fun _ => 0)) 22)).alloc (.cells (arrv 25 (fun _ => 0)) 89)
  have Z2 := (Blk.new1 x (.cells (arrv 24 (fun _ => 0)) 22) 22 24 (fun _ => 0)).alloc (.cells (arrv 25 (fun _ => 0)) 89)
  have Z3 := blk_new2 x (.cells (arrv 24 (fun _ => 0)) 22) (.cells (arrv 24 (fun _ => 0)) 22) 89 25 (fun _ => 0)
  have ZP := ((hb.alloc (.cells (arrv 24 (fun _ => 0)) 22)).alloc (.cells (arrv 24 (fun _ => 0)) 22)).alloc (.cells (arrv 25 (fun _ => 0)) 89)
  refine ⟨ZP, ?_⟩
  rintro X1 rfl
  refine ⟨Z1.setRow_other _ (by omega), ?_⟩
  rintro X2 rfl
  refine ⟨(Z2.setRow_other _ (by omega)).setRow_other _ (by omega), ?_⟩
  rintro X3 rfl
  refine ⟨((Z3.setRow_other _ (by omega)).setRow_other _ (by omega)).setRow_other _ (by omega), ?_⟩
  rintro X4 rfl
  refine ⟨(((ZP.setRow _).setRow_other _ (by omega)).setRow_other _ (by omega)).setRow_other _ (by omega), (((Z1.setRow_other _ (by omega)).setRow _).setRow_other _ (by omega)).setRow_other _ (by omega),
    (((Z2.setRow_other _ (by omega)).setRow_other _ (by omega)).setRow _).setRow_other _ (by omega), (((Z3.setRow_other _ (by omega)).setRow_other _ (by omega)).setRow_other _ (by omega)).setRow _, ?_, ?_⟩
  · exact below_row (below_row (below_row (below_row (((( Below.refl b x).alloc (by omega) _).alloc (by simp; omega) _).alloc (by simp; omega) _) (Nat.le_refl _) _) (by omega) _) (by omega) _) (by omega) _
  · intro k T n f hk hB
    have := hB.lt
    exact ((((((hB.alloc _).alloc _).alloc _).setRow_other _ (by omega)).setRow_other _ (by omega)).setRow_other _ (by omega)).setRow_other _ (by omega)
/-- What holds in the reference's Update. -/
structure UrR (c : Addr) (h : Bool) (fb vb ab bb : Nat) (F V A O B : Nat → Int) (w wr : World) : Prop where
  up : Upd c h w wr
  pB : Blk wr w.heap.size 26 300 O
  z0 : Blk wr (w.heap.size + 1 + 1) 26 300 (fun _ => 0)
  z1 : Blk wr (w.heap.size + 1 + 1 + 1) 22 24 (fun _ => 0)
  fB : Blk wr fb 22 24 F
  vB : Blk wr vb 22 24 V
  aB : Blk wr ab 89 25 A
  bB : Blk wr bb 22 24 B
  ord : w.heap.size + 3 < fb ∧ fb < vb ∧ vb < ab ∧ ab < bb
theorem UrR.upd' {c : Addr} {h h' : Bool} {fb vb ab bb : Nat} {F V A O B : Nat → Int} {w wr w' : World} (s : UrR c h fb vb ab bb F V A O B w wr) (hc : c.block < w.heap.size) (u : Upd c h' wr w') : UrR c h' fb vb ab bb F V A O B w w' := by
  have o := s.ord
  exact ⟨s.up.trans u, s.pB.upd u (by omega), s.z0.upd u (by omega), s.z1.upd u (by omega), s.fB.upd u (by omega), s.vB.upd u (by omega), s.aB.upd u (by omega), s.bB.upd u (by omega), s.ord⟩
theorem UrR.below {c : Addr} {h : Bool} {fb vb ab bb : Nat} {F V A O B : Nat → Int} {w wr w' : World} (s : UrR c h fb vb ab bb F V A O B w wr) (b : Below wr.heap.size wr w') : UrR c h fb vb ab bb F V A O B w w' :=
  ⟨s.up.then b, s.pB.below b, s.z0.below b, s.z1.below b, s.fB.below b, s.vB.below b, s.aB.below b, s.bB.below b, s.ord⟩
theorem UrR.setP {c : Addr} {h : Bool} {fb vb ab bb : Nat} {F V A O B : Nat → Int} {w wr : World} (s : UrR c h fb vb ab bb F V A O B w wr) (o : Nat) (v : Int) : UrR c h fb vb ab bb F V A (upd O o v) B w (wr.setCell ⟨w.heap.size, o, none⟩ (.int .i64 v)) := by
  have k := s.ord
  exact ⟨s.up.setCell (by simp) _, s.pB.set _ _, s.z0.other (by simp; omega) _, s.z1.other (by simp; omega) _, s.fB.other (by simp; omega) _, s.vB.other (by simp; omega) _, s.aB.other (by simp; omega) _, s.bB.other (by simp; omega) _, s.ord⟩
theorem UrR.setB {c : Addr} {h : Bool} {fb vb ab bb : Nat} {F V A O B : Nat → Int} {w wr : World} (s : UrR c h fb vb ab bb F V A O B w wr) (o : Nat) (v : Int) : UrR c h fb vb ab bb F V A O (upd B o v) w (wr.setCell ⟨bb, o, none⟩ (.int .i64 v)) := by
  have k := s.ord
  exact ⟨s.up.setCell (by simp; omega) _, s.pB.other (by simp; omega) _, s.z0.other (by simp; omega) _, s.z1.other (by simp; omega) _, s.fB.other (by simp; omega) _, s.vB.other (by simp; omega) _, s.aB.other (by simp; omega) _, s.bB.set _ _, s.ord⟩
theorem UrR.cong {c : Addr} {h : Bool} {fb vb ab bb : Nat} {F V A O B O' B' : Nat → Int} {w wr : World} (s : UrR c h fb vb ab bb F V A O B w wr) (hO : ∀ i, i < 300 → O i = O' i) (hB : ∀ i, i < 24 → B i = B' i) : UrR c h fb vb ab bb F V A O' B' w wr :=
  ⟨s.up, s.pB.congr hO, s.z0, s.z1, s.fB, s.vB, s.aB, s.bB.congr hB, s.ord⟩
theorem ur_step {P S : Nat → Int} {R UV BV VV YV MV NV : Int} {j m : Nat} {MM NM HX HM : Bool} (h1 : uV P m j = UV) (h2 : upB P S j m = BV) (h3 : bkV P S j = VV) (h4 : upX P S R j = YV) (h5 : mulV BV YV 44 = MV) (h6 : mulH BV YV 44 = MM) (h7 : mulV UV VV 30 = NV) (h8 : mulH UV VV 30 = NM) (h9 : (HX || orB (upRH P S R j) m) = HM) :
    (HX || orB (upRH P S R j) (m + 1)) = (HM || MM || addH UV MV || NM || addH BV NV) ∧ upU P S R j m = addV UV MV ∧ (m < j → ∀ x, upd (upBm P S j m) m (addV BV NV) x = upBm P S j (m + 1) x) := by
  have e1 : upRH P S R j m = (MM || addH UV MV || (NM || addH BV NV)) := by
    unfold upRH upUH upBH
    rw [h1, h2, h3, h4, h5, h6, h7, h8]
  refine ⟨?_, ?_, fun hm x => ?_⟩
  · rw [← h9]; simp only [orB]; rw [e1]; simp only [Bool.or_assoc]
  · unfold upU; rw [h1, h2, h4, h5]
  · simp only [upd, upBm]
    by_cases hx : x = m
    · subst hx; rw [if_pos rfl, if_neg (show ¬ x = j by omega), if_pos (by omega), h1, h2, h3, h7]
    · rw [if_neg hx]
      by_cases hj : x = j
      · rw [if_pos hj, if_pos hj]
      · rw [if_neg hj, if_neg hj]; split <;> split <;> first | rfl | omega
theorem ur_col {P S : Nat → Int} {R PD AV AW FV MD XV : Int} {j : Nat} {HU HJ MH XH HK HX : Bool} (h1 : (HU || orB (upCH P S R) j) = HJ) (h2 : P (276 + j) = PD) (h3 : bkA P S R j = AV) (h4 : bkA P S R (j + 1) = AW) (h5 : bkF P S j = FV) (h6 : mdivV PD AV AW = MD) (h7 : mdivH PD AV AW = MH) (h8 : divV FV AV 44 = XV) (h9 : divH FV AV 44 = XH)
    (g1 : (HJ || MH || varH MD) = HK) (g2 : (HK || XH) = HX) : (HU || orB (upCH P S R) (j + 1)) = (HX || orB (upRH P S R j) j) ∧ upD P S R j = varV MD ∧ upX P S R j = -XV := by
  refine ⟨?_, ?_, ?_⟩
  · rw [← g2, ← g1, ← h1]
    have e1 : upDH P S R j = (MH || varH MD) := by unfold upDH; rw [h2, h3, h4, h6, h7]
    have e2 : upXH P S R j = XH := by unfold upXH; rw [h5, h3, h9]
    simp only [orB, upCH, e1, e2, Bool.or_assoc]
  · unfold upD; rw [h2, h3, h4, h6]
  · unfold upX; rw [h5, h3, h8]
theorem trivial_eq {α : Type} (x : α) : x = x := rfl
theorem ur_gain {P S B0 : Nat → Int} {R SV : Int} (h1 : upB P S 24 = B0) (h2 : bkA P S R 24 = SV) (i : Nat) : upG P S R i = divV (B0 i) SV 30 ∧ upGH P S R i = divH (B0 i) SV 30 := by
  unfold upG upGH
  rw [h1, h2]
  exact ⟨trivial_eq _, trivial_eq _⟩
/-- The two rows that are told. -/
theorem ur_rows {c : Addr} {h : Bool} {fb vb ab bb : Nat} {F V A O B : Nat → Int} {w x : World} (s : UrR c h fb vb ab bb F V A O B w x) :
    (Blk x w.heap.size 26 300 O ∧ Blk x bb 22 24 B ∧ Blk x ab 89 25 A) ∧
    (∀ (X1 : World), X1 = x.setRow (w.heap.size + 1 + 1) (arrv 300 O) → (Blk X1 w.heap.size 26 300 O ∧ Blk X1 bb 22 24 B ∧ Blk X1 ab 89 25 A) ∧ Blk X1 (w.heap.size + 1 + 1 + 1) 22 24 (fun _ => 0) ∧
      ∀ (X2 : World), X2 = X1.setRow (w.heap.size + 1 + 1 + 1) (arrv 24 B) → (Blk X2 w.heap.size 26 300 O ∧ Blk X2 bb 22 24 B ∧ Blk X2 ab 89 25 A) ∧
        (Blk X2 (w.heap.size + 1 + 1) 26 300 O ∧ Blk X2 (w.heap.size + 1 + 1 + 1) 22 24 B) ∧ Upd c h w X2) := by
  obtain ⟨u, pB, z0, z1, fB, vB, aB, bB, o⟩ := s
  refine ⟨⟨pB, bB, aB⟩, ?_⟩
  rintro X1 rfl
  refine ⟨⟨pB.setRow_other _ (by omega), bB.setRow_other _ (by omega), aB.setRow_other _ (by omega)⟩, z1.setRow_other _ (by omega), ?_⟩
  rintro X2 rfl
  refine ⟨⟨(pB.setRow_other _ (by omega)).setRow_other _ (by omega), (bB.setRow_other _ (by omega)).setRow_other _ (by omega), (aB.setRow_other _ (by omega)).setRow_other _ (by omega)⟩, ⟨(z0.setRow _).setRow_other _ (by omega), (z1.setRow_other _ (by omega)).setRow _⟩, ?_⟩
  exact (u.then' (below_row (Below.refl _ _) (by omega) _)).then' (below_row (Below.refl _ _) (by omega) _)
end Go.Proofs.YtiajjiphknlldaaGreat
