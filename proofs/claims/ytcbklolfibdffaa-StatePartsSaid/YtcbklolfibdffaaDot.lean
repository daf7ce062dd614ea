/- Contract of fx.Dot. -/
import Derived.Test.YtcbklolfibdffaaFx4
import Derived.Test.YtcbklolfibdffaaReg
namespace Go.Proofs.Ytcbklolfibdffaa
open Go.RowKit
set_option maxRecDepth 100000
theorem ne_of_cells {w : World} {c a : Addr} {h : Bool} {n : Int} (hc : w.cell? c = some (.bool h)) (ha : w.cell? a = some (.int .i64 n)) : c ≠ a := by
  intro e; rw [e, ha] at hc; cases hc
/-- What holds at the head of a round of Dot: the sum so far stands in the call's own cells. -/
structure DotR (c : Addr) (h : Bool) (A B : Nat → Int) (w : World) (k : Nat) (wr : World) : Prop where
  upd : Upd c (h || dotB A B k) w wr
  c0 : wr.cell? ⟨w.heap.size, 0, none⟩ = some (.int .i64 (hi64 (dotS A B k)))
  c1 : wr.cell? ⟨w.heap.size, 1, none⟩ = some (.int .u64 (lo64 (dotS A B k)))
  f0 : wr.frozen? ⟨w.heap.size, 0, none⟩ = false
  f1 : wr.frozen? ⟨w.heap.size, 1, none⟩ = false
  sz : w.heap.size < wr.heap.size
theorem keep2 {c : Addr} {h : Bool} {w w' : World} (u : Upd c h w w') {a1 a2 : Addr} {v1 v2 : Value} (h1 : w.cell? a1 = some v1) (h2 : w.cell? a2 = some v2)
    (n1 : c ≠ a1) (n2 : c ≠ a2) : w'.cell? a1 = some v1 ∧ w'.cell? a2 = some v2 :=
  ⟨(u.cell (World.block_lt_of_cell? w _ h1) n1).trans h1, (u.cell (World.block_lt_of_cell? w _ h2) n2).trans h2⟩
theorem keep4 {c : Addr} {h : Bool} {w w' : World} (u : Upd c h w w') {a1 a2 a3 a4 : Addr} {v1 v2 v3 v4 : Value} (h1 : w.cell? a1 = some v1) (h2 : w.cell? a2 = some v2) (h3 : w.cell? a3 = some v3) (h4 : w.cell? a4 = some v4)
    (n1 : c ≠ a1) (n2 : c ≠ a2) (n3 : c ≠ a3) (n4 : c ≠ a4) : w'.cell? a1 = some v1 ∧ w'.cell? a2 = some v2 ∧ w'.cell? a3 = some v3 ∧ w'.cell? a4 = some v4 :=
  ⟨(u.cell (World.block_lt_of_cell? w _ h1) n1).trans h1, (u.cell (World.block_lt_of_cell? w _ h2) n2).trans h2, (u.cell (World.block_lt_of_cell? w _ h3) n3).trans h3, (u.cell (World.block_lt_of_cell? w _ h4) n4).trans h4⟩
end Go.Proofs.Ytcbklolfibdffaa
