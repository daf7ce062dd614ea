/-
  The law JacTurned answers true, whatever is given: Turned tells how a turned vector changes with the quaternion, within the square of the change. Conditions: none.
-/
import Derived.Test.YtanmddenleffaaaRows
import Derived.Test.YtanmddenleffaaaTurn17W
import Derived.Test.YtanmddenleffaaaS01
namespace Go.Proofs.Ytanmddenleffaaa
open Go.ChangeShapes Go.WideShapes Go.ChangeAt Go.RowKit
set_option maxRecDepth 100000 in
theorem jacTurned_lifted (os : Os) (started : os.Started) (H : Type) (enc : TypeId × Value → H) :
    ReturnsInHanded {} Try.checked os 6 .any (Rows.jacTurnedSpec.pre6 enc Try.prog Try.f6 Rows.jacTurnedRow.domain false) (Rows.jacTurnedSpec.post enc Try.prog Try.f6 false true false false) := by
  refine returnsInHanded_of_change (C := Try.checked) own_knob started (by kernel_rfl) Try.func6
    (ChangeSpec.witness6 (enc := enc) (C := Try.checked) false ⟨#[], #[.agg (Array.replicate 4 (.int .i64 0)), .agg (Array.replicate 3 (.int .i64 0)), .agg (Array.replicate 4 (.int .i64 0))], []⟩ 8 (by kernel_rfl) (by kernel_rfl) (by kernel_rfl) (by kernel_rfl)) ?_
  intro W base args ds gs before hval0 hW hcnd _
  have hval : ∀ (j : Nat) t v, Try.f6.params[j]? = some t → args[j]? = some v → Value.okWide Try.prog W .any base t v := hval0
  have hW' := hW
  obtain ⟨p, q, hA0, hV, rfl, hfz, hnd⟩ := hW
  have hA : DataW.TrodAll enc Try.prog W 0 (fun _ => true) true Try.f6.params.toList args.toList ds p := hA0
  rw [Try.params6] at hA hval
  obtain ⟨v0, vs0, d0, ds0, p0, q0, hargs, rfl, rfl, h0, r0⟩ := trodAll_cons hA
  obtain ⟨v1, vs1, d1, ds1, p1, q1, rfl, rfl, rfl, h1, r1⟩ := trodAll_cons r0
  obtain ⟨v2, vs2, d2, ds2, p2, q2, rfl, rfl, rfl, h2, r2⟩ := trodAll_cons r1
  obtain ⟨rfl, rfl, rfl⟩ := trodAll_nil r2
  obtain rfl : args = #[v0, v1, v2] := by cases args; simp_all
  obtain ⟨x0, rfl, b0, _⟩ := open_vec ints_qt cells_qt ⟨_, Try.underlying40, rfl⟩ (hval 0 40 v0 rfl rfl) h0
  obtain ⟨x1, rfl, b1, _⟩ := open_vec ints_v3 cells_v3 ⟨_, Try.underlying41, rfl⟩ (hval 1 41 v1 rfl rfl) h1
  obtain ⟨x2, rfl, b2, _⟩ := open_vec ints_a4 cells_a4 ⟨_, Try.underlying39, rfl⟩ (hval 2 39 v2 rfl rfl) h2
  refine (turn17_walk x0 x1 x2 W).mono fun e W' ⟨he, hb⟩ => ?_
  subst he
  exact ⟨_, rfl, law_post (tb := 4) hW' rfl rfl Try.underlying4 rfl laid_out (by kernel_rfl) hb⟩
theorem jacTurned_holds : Rows.JacTurnedSaid :=
  OpenClaim.holds_of_wide 6 Try.f6 rfl rfl rfl rfl rfl rfl rfl ⟨rfl, rfl, rfl, rfl, rfl⟩ rfl rfl rfl rfl rfl (by kernel_rfl) Try.func6 (by kernel_rfl)
    (of_decide_eq_true (by kernel_rfl)) (by unfold Func.isWrapper; first | (rw [if_pos (by decide +kernel)]; kernel_rfl) | (rw [if_neg (by decide +kernel)]; exact ⟨rfl, rfl⟩))
    (fun os started H enc _ => jacTurned_lifted os started H enc)
#print axioms jacTurned_holds
end Go.Proofs.Ytanmddenleffaaa
