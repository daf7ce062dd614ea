/- A call's own blocks as a list: what holds of them all, whatever is called between. -/
import Derived.Test.YtcombidoaghlbaaS01
namespace Go.Proofs.Ytcombidoaghlbaa
open Go.RowKit
theorem ls_row_other {w : World} {g : Nat} (cs : Array Value) {p : Addr} (h : p.block ≠ g) : (w.setRow g cs).cell? p = w.cell? p ∧ (w.setRow g cs).frozen? p = w.frozen? p := by
  have e := Go.setRow_other w g p.block cs h
  constructor
  · simp only [World.cell?, e]
  · simp only [World.frozen?, e]
/-- A block of numbers: where, of what type, how many, which. -/
structure Lx where
  b : Nat
  T : Nat
  n : Nat
  F : Nat → Int
/-- The flag at c is h; the blocks E lie from w's end to top. -/
structure LsR (c : Addr) (h : Bool) (E : List Lx) (top : Nat) (w wr : World) : Prop where
  upd : Upd c h w wr
  cell : wr.cell? c = some (.bool h)
  free : wr.frozen? c = false
  cb : c.block < w.heap.size
  ex : ∀ e, e ∈ E → Blk wr e.b e.T e.n e.F ∧ w.heap.size ≤ e.b ∧ e.b < top
  lim : w.heap.size ≤ top
  le : top ≤ wr.heap.size
section
variable {c : Addr} {h h' : Bool} {E : List Lx} {top : Nat} {w wr w' : World}
theorem LsR.upd' (s : LsR c h E top w wr) (u : Upd c h' wr w') : LsR c h' E top w w' := by
  have hcb := s.cb
  have hl := s.lim
  exact ⟨s.upd.trans u, u.cellc s.cell, (u.frozen (World.block_lt_of_cell? _ _ s.cell)).trans s.free, s.cb, fun e he => ⟨(s.ex e he).1.upd u (by have := (s.ex e he).2.1; omega), (s.ex e he).2⟩, s.lim, Nat.le_trans s.le u.size⟩
theorem LsR.low (s : LsR c h E top w wr) (u : Below top wr w') (hz : top ≤ w'.heap.size) : LsR c h E top w w' := by
  have hcb := s.cb
  have hl := s.lim
  exact ⟨s.upd.then' (u.mono (by omega)), (u.cell (by omega)).trans s.cell, (u.frozen (by omega)).trans s.free, s.cb, fun e he => ⟨(u.block _ (s.ex e he).2.2).trans (s.ex e he).1, (s.ex e he).2⟩, s.lim, hz⟩
theorem LsR.down (s : LsR c h E top w wr) (u : Below wr.heap.size wr w') : LsR c h E top w w' := s.low (u.mono s.le) (Nat.le_trans s.le u.size)
theorem LsR.drew (s : LsR c h E top w wr) : LsR c h E top w wr.drew := s.down (Below.drew (Below.refl _ _))
theorem LsR.alloc (s : LsR c h E top w wr) (o : Obj) : LsR c h E top w (wr.alloc o) := s.down ((Below.refl _ _).alloc (Nat.le_refl _) o)
/-- One more block, laid at the end. -/
theorem LsR.lay (s : LsR c h E top w wr) (T n : Nat) (F : Nat → Int) : LsR c h (⟨wr.heap.size, T, n, F⟩ :: E) (wr.heap.size + 1) w (wr.alloc (.cells (arrv n F) T)) := by
  have k := s.alloc (.cells (arrv n F) T)
  have hl := s.lim
  have hle := s.le
  refine ⟨k.upd, k.cell, k.free, k.cb, fun e he => ?_, by omega, by simp⟩
  rcases List.mem_cons.1 he with rfl | he
  · exact ⟨Blk.new _ _ _ _, by simp only; omega, by simp⟩
  · have := k.ex e he
    exact ⟨this.1, this.2.1, by omega⟩
/-- .. and filled. -/
theorem LsR.put (s : LsR c h E top w wr) (T n : Nat) (G F : Nat → Int) : LsR c h (⟨wr.heap.size, T, n, F⟩ :: E) (wr.heap.size + 1) w ((wr.alloc (.cells (arrv n G) T)).setRow wr.heap.size (arrv n F)) := by
  have hl := s.lim
  have hle := s.le
  have b : Below wr.heap.size wr ((wr.alloc (.cells (arrv n G) T)).setRow wr.heap.size (arrv n F)) := below_row ((Below.refl _ _).alloc (Nat.le_refl _) _) (Nat.le_refl _) _
  have k := s.down b
  refine ⟨k.upd, k.cell, k.free, k.cb, fun e he => ?_, by omega, by rw [setRow_size]; simp⟩
  rcases List.mem_cons.1 he with rfl | he
  · exact ⟨(Blk.new _ _ _ _).setRow F, by simp only; omega, by simp⟩
  · have := k.ex e he
    exact ⟨this.1, this.2.1, by omega⟩
theorem LsR.e0 {b T n : Nat} {F : Nat → Int} (s : LsR c h (⟨b, T, n, F⟩ :: E) top w wr) : Blk wr b T n F := (s.ex _ (.head _)).1
theorem LsR.tail {a : Lx} (s : LsR c h (a :: E) top w wr) : LsR c h E top w wr := ⟨s.upd, s.cell, s.free, s.cb, fun e he => s.ex e (.tail _ he), s.lim, s.le⟩
theorem LsR.e1 {a : Lx} {b T n : Nat} {F : Nat → Int} (s : LsR c h (a :: ⟨b, T, n, F⟩ :: E) top w wr) : Blk wr b T n F := s.tail.e0
theorem LsR.e2 {a a2 : Lx} {b T n : Nat} {F : Nat → Int} (s : LsR c h (a :: a2 :: ⟨b, T, n, F⟩ :: E) top w wr) : Blk wr b T n F := s.tail.e1
theorem LsR.e3 {a a2 a3 : Lx} {b T n : Nat} {F : Nat → Int} (s : LsR c h (a :: a2 :: a3 :: ⟨b, T, n, F⟩ :: E) top w wr) : Blk wr b T n F := s.tail.e2
theorem LsR.e4 {a a2 a3 a4 : Lx} {b T n : Nat} {F : Nat → Int} (s : LsR c h (a :: a2 :: a3 :: a4 :: ⟨b, T, n, F⟩ :: E) top w wr) : Blk wr b T n F := s.tail.e3
theorem LsR.e5 {a a2 a3 a4 a5 : Lx} {b T n : Nat} {F : Nat → Int} (s : LsR c h (a :: a2 :: a3 :: a4 :: a5 :: ⟨b, T, n, F⟩ :: E) top w wr) : Blk wr b T n F := s.tail.e4
theorem LsR.e6 {a a2 a3 a4 a5 a6 : Lx} {b T n : Nat} {F : Nat → Int} (s : LsR c h (a :: a2 :: a3 :: a4 :: a5 :: a6 :: ⟨b, T, n, F⟩ :: E) top w wr) : Blk wr b T n F := s.tail.e5
theorem LsR.e7 {a a2 a3 a4 a5 a6 a7 : Lx} {b T n : Nat} {F : Nat → Int} (s : LsR c h (a :: a2 :: a3 :: a4 :: a5 :: a6 :: a7 :: ⟨b, T, n, F⟩ :: E) top w wr) : Blk wr b T n F := s.tail.e6
/-- The first block's row stored. -/
theorem LsR.row {b T n : Nat} {F : Nat → Int} (s : LsR c h (⟨b, T, n, F⟩ :: E) top w wr) (hn : ∀ e, e ∈ E → e.b ≠ b) (G : Nat → Int) : LsR c h (⟨b, T, n, G⟩ :: E) top w (wr.setRow b (arrv n G)) := by
  have h0 := s.ex _ (.head _)
  have hcb := s.cb
  have hb : w.heap.size ≤ b := h0.2.1
  refine ⟨s.upd.then' (below_row (Below.refl _ _) hb _), by rw [(ls_row_other _ (by omega)).1]; exact s.cell, by rw [(ls_row_other _ (by omega)).2]; exact s.free, s.cb, fun e he => ?_, s.lim, by rw [setRow_size]; exact s.le⟩
  rcases List.mem_cons.1 he with rfl | he
  · exact ⟨h0.1.setRow G, h0.2⟩
  · have := s.ex e (.tail _ he)
    exact ⟨this.1.setRow_other _ (hn e he), this.2⟩
/-- The first block's cell stored. -/
theorem LsR.set {b T n : Nat} {F : Nat → Int} (s : LsR c h (⟨b, T, n, F⟩ :: E) top w wr) (hn : ∀ e, e ∈ E → e.b ≠ b) (i : Nat) (x : Int) : LsR c h (⟨b, T, n, Go.Proofs.Ytcombidoaghlbaa.upd F i x⟩ :: E) top w (wr.setCell ⟨b, i, none⟩ (.int .i64 x)) := by
  have h0 := s.ex _ (.head _)
  have hcb := s.cb
  have hb : w.heap.size ≤ b := h0.2.1
  have hne : (⟨b, i, none⟩ : Addr) ≠ c := fun e => by rw [← e] at hcb; simp only at hcb; omega
  refine ⟨s.upd.setCell hb _, (World.cell?_setCell_other _ _ _ _ hne).trans s.cell, (World.frozen?_setCell ..).trans s.free, s.cb, fun e he => ?_, s.lim, by rw [setCell_size]; exact s.le⟩
  rcases List.mem_cons.1 he with rfl | he
  · exact ⟨h0.1.set i x, h0.2⟩
  · have := s.ex e (.tail _ he)
    exact ⟨this.1.other (hn e he) _, this.2⟩
theorem LsR.congr {b T n : Nat} {F G : Nat → Int} (s : LsR c h (⟨b, T, n, F⟩ :: E) top w wr) (eh : h = h') (e : ∀ i, i < n → F i = G i) : LsR c h' (⟨b, T, n, G⟩ :: E) top w wr := by
  subst eh
  refine ⟨s.upd, s.cell, s.free, s.cb, fun x hx => ?_, s.lim, s.le⟩
  rcases List.mem_cons.1 hx with rfl | hx
  · exact ⟨s.e0.congr e, (s.ex _ (.head _)).2⟩
  · exact s.ex x (.tail _ hx)
theorem ls_nil (hc : w.cell? c = some (.bool h)) (hf : w.frozen? c = false) : LsR c h [] w.heap.size w w := ⟨Upd.refl hc, hc, hf, World.block_lt_of_cell? w c hc, (fun e he => by cases he), Nat.le_refl _, Nat.le_refl _⟩
end
end Go.Proofs.Ytcombidoaghlbaa
