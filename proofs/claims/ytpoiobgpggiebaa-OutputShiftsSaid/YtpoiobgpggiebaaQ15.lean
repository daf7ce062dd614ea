/- Contracts of the program's functions and plain laws, part 15: they hold for all arguments. -/
import Derived.Test.YtpoiobgpggiebaaQ14
import Derived.Test.YtpoiobgpggiebaaQ04
import Derived.Test.YtpoiobgpggiebaaQ03
/- strap.Step's numbers and blocks. -/
namespace Go.Proofs.Ytpoiobgpggiebaa
open Go.RowKit
set_option maxRecDepth 100000
/-- The numbers of a step: of a kept estimate and a sample's parts. -/
def stQ (S P : Nat → Int) : Nat → Int := uniV (qmV S (fun i => P (7 + i)))
def stG (P : Nat → Int) : Nat → Int := vc3 0 0 (mulV 10529810258 (P 0) 30)
def stA (P : Nat → Int) : Nat → Int := apV (fun i => P (11 + i)) (fun i => P (4 + i))
def stN (S P : Nat → Int) : Nat → Int := vaV (v3L (partF S 4) (stA P) (stG P)) 3
def stF (P : Nat → Int) : Int := mulV (P 0) 536870912 30
def stM (S P : Nat → Int) : Nat → Int := vaV (v2L (partF S 4) (stN S P)) 2
def stL (S P : Nat → Int) : Nat → Int := fun i => mulV (stM S P i) (stF P) 30
def stX (S P : Nat → Int) : Nat → Int := vaV (v2L (partF S 7) (stL S P)) 2
def stS (S P : Nat → Int) : Nat → Int := withF (withF (withF S 0 4 (stQ S P)) 4 3 (stN S P)) 7 3 (stX S P)
def stepN (S I : Nat → Int) : Nat → Int := keepF (stS (keepF S) (spF (keepF S) I))
def stHH (S P : Nat → Int) : Bool := qmH S (fun i => P (7 + i)) || uniH (qmV S (fun i => P (7 + i))) || apH (fun i => P (11 + i)) (fun i => P (4 + i)) || mulH 10529810258 (P 0) 30 || orB (vaH (v3L (partF S 4) (stA P) (stG P)) 3) 3 || mulH (P 0) 536870912 30 || orB (vaH (v2L (partF S 4) (stN S P)) 2) 3 || orB (fun i => mulH (stM S P i) (stF P) 30) 3 || orB (vaH (v2L (partF S 7) (stL S P)) 2) 3 || keepH (stS S P)
def stepH2 (S I : Nat → Int) : Bool := keepH S || spH (keepF S) I || keepH S || stHH (keepF S) (spF (keepF S) I)
/-- Further blocks. -/
structure Ex where
  b : Nat
  T : Nat
  n : Nat
  F : Nat → Int
/-- The blocks of strap.Step. -/
structure TsR (c : Addr) (h : Bool) (S I : Nat → Int) (E : List Ex) (top : Nat) (w wr : World) : Prop where
  upd : Upd c h w wr
  s : Blk wr w.heap.size 32 24 S
  i : Blk wr (w.heap.size + 1) 35 8 I
  r : Blk wr (w.heap.size + 1 + 1) 32 24 (fun _ => 0)
  cell : wr.cell? c = some (.bool h)
  free : wr.frozen? c = false
  cb : c.block < w.heap.size
  ex : ∀ e, e ∈ E → Blk wr e.b e.T e.n e.F ∧ w.heap.size + 1 + 1 < e.b ∧ e.b < top
  lim : w.heap.size + 1 + 1 < top
  le : top ≤ wr.heap.size
section
variable {c : Addr} {h h' : Bool} {S I : Nat → Int} {E : List Ex} {top : Nat} {w wr w' : World}
theorem TsR.upd' (s : TsR c h S I E top w wr) (u : Upd c h' wr w') : TsR c h' S I E top w w' := by
  have hcb := s.cb
  have hl := s.lim
  exact ⟨s.upd.trans u, s.s.upd u (by omega), s.i.upd u (by omega), s.r.upd u (by omega), u.cellc s.cell, (u.frozen (World.block_lt_of_cell? _ _ s.cell)).trans s.free, s.cb, fun e he => ⟨(s.ex e he).1.upd u (by have := (s.ex e he).2.1; omega), (s.ex e he).2⟩, s.lim, Nat.le_trans s.le u.size⟩
theorem TsR.low (s : TsR c h S I E top w wr) (u : Below top wr w') (hz : top ≤ w'.heap.size) : TsR c h S I E top w w' := by
  have hcb := s.cb
  have hl := s.lim
  have hle := s.le
  exact ⟨s.upd.then' (u.mono (by omega)), (u.block _ (by omega)).trans s.s, (u.block _ (by omega)).trans s.i, (u.block _ (by omega)).trans s.r, (u.cell (by omega)).trans s.cell, (u.frozen (by omega)).trans s.free, s.cb, fun e he => ⟨(u.block _ (s.ex e he).2.2).trans (s.ex e he).1, (s.ex e he).2⟩, s.lim, hz⟩
theorem TsR.down (s : TsR c h S I E top w wr) (u : Below wr.heap.size wr w') : TsR c h S I E top w w' := s.low (u.mono s.le) (Nat.le_trans s.le u.size)
theorem TsR.drew (s : TsR c h S I E top w wr) : TsR c h S I E top w wr.drew := s.down (Below.drew (Below.refl _ _))
theorem TsR.alloc (s : TsR c h S I E top w wr) (o : Obj) : TsR c h S I E top w (wr.alloc o) := s.down ((Below.refl _ _).alloc (Nat.le_refl _) o)
theorem TsR.rowS (s : TsR c h S I E top w wr) (F : Nat → Int) : TsR c h F I E top w (wr.setRow w.heap.size (arrv 24 F)) := by
  have hcb := s.cb
  exact ⟨s.upd.then' (below_row (Below.refl _ _) (by omega) _), s.s.setRow F, s.i.setRow_other _ (by omega), s.r.setRow_other _ (by omega), by rw [(cell_row_other _ (by omega)).1]; exact s.cell, by rw [(cell_row_other _ (by omega)).2]; exact s.free, s.cb, fun e he => ⟨(s.ex e he).1.setRow_other _ (by have := (s.ex e he).2.1; omega), (s.ex e he).2⟩, s.lim, by rw [setRow_size]; exact s.le⟩
/-- A row stored into a block above. -/
theorem TsR.put (s : TsR c h S I E top w wr) {b T n : Nat} {f : Nat → Int} (hb : Blk wr b T n f) (ht : top ≤ b) (F : Nat → Int) : TsR c h S I (⟨b, T, n, F⟩ :: E) (b + 1) w (wr.setRow b (arrv n F)) := by
  have hl := s.lim
  have k := s.low (below_row (Below.refl top wr) ht (arrv n F)) (by rw [setRow_size]; exact s.le)
  refine ⟨k.upd, k.s, k.i, k.r, k.cell, k.free, k.cb, fun e he => ?_, by omega, by rw [setRow_size]; have := hb.lt; omega⟩
  rcases List.mem_cons.1 he with rfl | he
  · exact ⟨hb.setRow F, by simp only; omega, by simp⟩
  · have := k.ex e he
    exact ⟨this.1, this.2.1, by omega⟩
theorem TsR.ex0 {b T n : Nat} {F : Nat → Int} (s : TsR c h S I (⟨b, T, n, F⟩ :: E) top w wr) : Blk wr b T n F := (s.ex _ (.head _)).1
theorem TsR.ex1 {a : Ex} {b T n : Nat} {F : Nat → Int} (s : TsR c h S I (a :: ⟨b, T, n, F⟩ :: E) top w wr) : Blk wr b T n F := (s.ex _ (.tail _ (.head _))).1
theorem TsR.ex2 {a a2 : Ex} {b T n : Nat} {F : Nat → Int} (s : TsR c h S I (a :: a2 :: ⟨b, T, n, F⟩ :: E) top w wr) : Blk wr b T n F := (s.ex _ (.tail _ (.tail _ (.head _)))).1
theorem TsR.ex3 {a a2 a3 : Ex} {b T n : Nat} {F : Nat → Int} (s : TsR c h S I (a :: a2 :: a3 :: ⟨b, T, n, F⟩ :: E) top w wr) : Blk wr b T n F := (s.ex _ (.tail _ (.tail _ (.tail _ (.head _))))).1
theorem ts_start (c : Addr) (h : Bool) (S I : Nat → Int) (w : World) (hc : w.cell? c = some (.bool h)) (hf : w.frozen? c = false) :
    TsR c h S I [] (w.heap.size + 1 + 1 + 1) w (((w.alloc (.cells (arrv 24 S) 32)).alloc (.cells (arrv 8 I) 35)).alloc (.cells #[.int .i64 0, .int .i64 0, .int .i64 0, .int .i64 0, .int .i64 0, .int .i64 0, .int .i64 0, .int .i64 0, .int .i64 0, .int .i64 0, .int .i64 0, .int .i64 0, .int .i64 0, .int .i64 0, .int .i64 0, .int .i64 0, .int .i64 0, .int .i64 0, .int .i64 0, .int .i64 0, .int .i64 0, .int .i64 0, .int .i64 0, .int .i64 0] 32)) := by
  have hcb := World.block_lt_of_cell? w c hc
  have bl : Below w.heap.size w (((w.alloc (.cells (arrv 24 S) 32)).alloc (.cells (arrv 8 I) 35)).alloc (.cells #[.int .i64 0, .int .i64 0, .int .i64 0, .int .i64 0, .int .i64 0, .int .i64 0, .int .i64 0, .int .i64 0, .int .i64 0, .int .i64 0, .int .i64 0, .int .i64 0, .int .i64 0, .int .i64 0, .int .i64 0, .int .i64 0, .int .i64 0, .int .i64 0, .int .i64 0, .int .i64 0, .int .i64 0, .int .i64 0, .int .i64 0, .int .i64 0] 32)) := by (repeat (first | with_reducible exact Below.refl _ _ | with_reducible apply Below.drew | (with_reducible refine below_drewN ?_ _) | (with_reducible refine Below.alloc ?_ (by (try simp) <;> omega) _) | (with_reducible refine Below.setCell ?_ (by (try simp) <;> omega) _)))
  refine ⟨Upd.then (Upd.refl hc) bl, ?_, ?_, ?_, (bl.cell hcb).trans hc, (bl.frozen hcb).trans hf, hcb, (fun e he => by cases he), by omega, by simp⟩
  · exact ((Blk.new w _ 24 S).alloc _).alloc _
  · exact (Blk.new1 w _ _ 8 I).alloc _
  · rw [zvec24]; exact blk_new2 w _ _ _ 24 _
theorem ts_new4 (s : TsR c h S I E top w wr) (d : Nat) (e : wr.heap.size = d) : Blk (wr.alloc (.cells #[.int .i64 0, .int .i64 0, .int .i64 0, .int .i64 0] 42)) d 42 4 (fun _ => 0) ∧ top ≤ d := by
  subst e; rw [zq4]; exact ⟨Blk.new _ _ _ _, s.le⟩
theorem ts_new3 (s : TsR c h S I E top w wr) (d : Nat) (e : wr.heap.size = d) : Blk (wr.alloc (.cells #[.int .i64 0, .int .i64 0, .int .i64 0] 43)) d 43 3 (fun _ => 0) ∧ top ≤ d := by
  subst e; rw [zv3]; exact ⟨Blk.new _ _ _ _, s.le⟩
theorem ts_new20 (s : TsR c h S I E top w wr) : Blk (wr.alloc (.cells #[.int .i64 0, .int .i64 0, .int .i64 0, .int .i64 0, .int .i64 0, .int .i64 0, .int .i64 0, .int .i64 0, .int .i64 0, .int .i64 0, .int .i64 0, .int .i64 0, .int .i64 0, .int .i64 0, .int .i64 0, .int .i64 0, .int .i64 0, .int .i64 0, .int .i64 0, .int .i64 0] 94)) wr.heap.size 94 20 (fun _ => 0) ∧ top ≤ wr.heap.size := by
  rw [zp20]; exact ⟨Blk.new _ _ _ _, s.le⟩
end
end Go.Proofs.Ytpoiobgpggiebaa
/- A region that draws its order: one of three may come up. -/
namespace Go.Proofs.Ytpoiobgpggiebaa
open Go.RowKit
set_option maxRecDepth 100000
open Go in
theorem wpAnyM_threeS {P : Program} {ops : Array Oper} {Q : Exit → Act → World → Prop} {md : Region.Mode} {L : Nat} {S : World → Prop} (i j l : Nat) {oi oj ol : Oper} {fuel : Nat} {listed : Array Bool} {a : Act} {w : World} (hi : ops.toList[i]? = some oi) (hj : ops.toList[j]? = some oj) (hl : ops.toList[l]? = some ol) (hr : Region.ready md ops listed = [i, j, l])
    (h1 : ∀ K : Act → World → Prop, Shut (∀ a w, S w → (S w → wpAnyM P md ops Q S L fuel (listed.setIfInBounds i true) a w) → K a w) →
      if Region.wanted oi (yielded ops a.tmps) = true then Oper.wp P oi a w K Q else K (a.put oi.dst undef) w)
    (h2 : ∀ K : Act → World → Prop, Shut (∀ a w, S w → (S w → wpAnyM P md ops Q S L fuel (listed.setIfInBounds j true) a w) → K a w) →
      if Region.wanted oj (yielded ops a.tmps) = true then Oper.wp P oj a w K Q else K (a.put oj.dst undef) w)
    (h3 : ∀ K : Act → World → Prop, Shut (∀ a w, S w → (S w → wpAnyM P md ops Q S L fuel (listed.setIfInBounds l true) a w) → K a w) →
      if Region.wanted ol (yielded ops a.tmps) = true then Oper.wp P ol a w K Q else K (a.put ol.dst undef) w) :
    wpAnyM P md ops Q S L (fuel + 1) listed a w := by
  have hi' : ops[i]? = some oi := by rwa [Array.getElem?_toList] at hi
  have hj' : ops[j]? = some oj := by rwa [Array.getElem?_toList] at hj
  have hl' : ops[l]? = some ol := by rwa [Array.getElem?_toList] at hl
  refine ⟨fun h0 => (by rw [hr] at h0; cases h0), fun k hk => ?_⟩
  rw [hr] at hk
  have hk' : k = i ∨ k = j ∨ k = l := by simpa using hk
  rcases hk' with rfl | rfl | rfl
  · exact wpOp_step hi' (fun K' hK => h1 K' (fun a w hS hW => hK a w ⟨.inr hS, hW hS⟩))
  · exact wpOp_step hj' (fun K' hK => h2 K' (fun a w hS hW => hK a w ⟨.inr hS, hW hS⟩))
  · exact wpOp_step hl' (fun K' hK => h3 K' (fun a w hS hW => hK a w ⟨.inr hS, hW hS⟩))
end Go.Proofs.Ytpoiobgpggiebaa
