/- '==' of two rows. -/
import Derived.Test.YtkfapackpggagaaEq
import Derived.Test.YtkfapackpggagaaPick
namespace Go.Proofs.Ytkfapackpggagaa
open Go.RowKit
set_option maxRecDepth 100000
theorem run_equal_row (w : World) (f g : Nat → Int) : (Op.equal 31 (.agg (arrv 24 f)) (.agg (arrv 24 g))).run Try.prog w = .ok (eqB 24 f g) w := by
  have h : (Try.prog.info? 2).map (·.size) = some 1 := by kernel_rfl
  obtain ⟨i, h2, s2⟩ : ∃ i, Try.prog.info? 2 = some i ∧ i.size = 1 := by
    cases e : Try.prog.info? 2 with
    | none => rw [e] at h; cases h
    | some i => rw [e] at h; exact ⟨i, rfl, by simpa using h⟩
  exact run_equalIn_vec (w := w) 9998 Try.underlying31 Try.underlying2 (by simp [Program.cellsOf, h2, s2]) h2 _ _
open Go in
theorem run_op_eqlRow {o : Oper} {ev : Operand → Value} {w : World} (x y : Operand) (ho : o.op = .binOp .eql 31 x y 31) {f g : Nat → Int} (hx : ev x = .agg (arrv 24 f)) (hy : ev y = .agg (arrv 24 g)) {b : Bool} (hb : eqB 24 f g = b) :
    (execOp ev o).run Try.prog w = .ok (.value (.bool b)) w := by
  have e := run_equal_row w f g
  have hG : Try.prog.eqGuardType Try.prog.depth 31 = false := by kernel_rfl
  unfold execOp
  simp only [ho, hx, hy, eqGuard, binOp, Sem.run_bind, Sem.run_pure, Result.andThen_ok]
  simp [hG, e, hb, go_sem]
end Go.Proofs.Ytkfapackpggagaa
