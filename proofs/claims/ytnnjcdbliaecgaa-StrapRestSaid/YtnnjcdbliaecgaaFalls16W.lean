/- The walk of StrapFalls. -/
import Derived.Test.YtnnjcdbliaecgaaS01
import Derived.Test.YtnnjcdbliaecgaaUpr6
namespace Go.Proofs.Ytnnjcdbliaecgaa
open Go.RowKit
set_option maxRecDepth 100000
/-- The flag (never set), the estimate. -/
structure FaR (bc sb : Nat) (S : Nat → Int) (w wr : World) : Prop where
  below : Below w.heap.size w wr
  fl : Flg wr bc false
  s : Blk wr sb 27 24 S
  lt : w.heap.size ≤ bc ∧ bc < sb
theorem FaR.down {bc sb : Nat} {S : Nat → Int} {w wr w' : World} (s : FaR bc sb S w wr) (k : Below wr.heap.size wr w') : FaR bc sb S w w' := ⟨s.below.trans (k.mono s.below.size), s.fl.below k, s.s.below k, s.lt⟩
theorem FaR.upd' {bc sb : Nat} {S : Nat → Int} {w wr w' : World} (s : FaR bc sb S w wr) (u : Upd ⟨bc, 0, none⟩ false wr w') : FaR bc sb S w w' := ⟨below_of_upd s.below u s.lt.1, s.fl.hit u, s.s.upd u (by have := s.lt; simp only; omega), s.lt⟩
theorem FaR.row {bc sb : Nat} {S : Nat → Int} {w wr : World} (s : FaR bc sb S w wr) (F : Nat → Int) : FaR bc sb F w (wr.setRow sb (arrv 24 F)) := by
  have := s.lt
  exact ⟨below_row s.below (by omega) _, s.fl.row _ (by omega), s.s.setRow F, s.lt⟩
end Go.Proofs.Ytnnjcdbliaecgaa
