/-
  The law BiermanNothing answers true, whatever is given: a row of noughts learns nothing. Conditions: none.
-/
import Derived.Test.YtkfapackpggagaaRows
import Derived.Test.YtkfapackpggagaaNothW
import Derived.Test.YtkfapackpggagaaJoin
namespace Go.Proofs.Ytkfapackpggagaa
open Go.ChangeShapes Go.WideShapes Go.ChangeAt Go.RowKit
set_option maxRecDepth 100000 in
theorem biermanNothing_lifted (os : Os) (started : os.Started) (H : Type) (enc : TypeId × Value → H) :
    ReturnsInHanded {} Try.checked os 3 .any (Rows.biermanNothingSpec.pre6 enc Try.prog Try.f3 Rows.biermanNothingRow.domain false) (Rows.biermanNothingSpec.post enc Try.prog Try.f3 false true false false) := by
  refine returnsInHanded_of_change (C := Try.checked) own_knob started (by kernel_rfl) Try.func3
    (ChangeSpec.witness6 (enc := enc) (C := Try.checked) false ⟨#[], #[.agg (Array.replicate 300 (.int .i64 0)), .int .i64 0], []⟩ 8 (by kernel_rfl) (by kernel_rfl) (by kernel_rfl) (by kernel_rfl)) ?_
  intro W base args ds gs before hval0 hW hcnd _
  have hval : ∀ (j : Nat) t v, Try.f3.params[j]? = some t → args[j]? = some v → Value.okWide Try.prog W .any base t v := hval0
  have hW' := hW
  obtain ⟨p, q, hA0, hV, rfl, hfz, hnd⟩ := hW
  have hA : DataW.TrodAll enc Try.prog W 0 (fun _ => true) true Try.f3.params.toList args.toList ds p := hA0
  rw [Try.params3] at hA hval
  obtain ⟨v0, vs0, d0, ds0, p0, q0, hargs, rfl, rfl, h0, r0⟩ := trodAll_cons hA
  obtain ⟨v1, vs1, d1, ds1, p1, q1, rfl, rfl, rfl, h1, r1⟩ := trodAll_cons r0
  obtain ⟨rfl, rfl, rfl⟩ := trodAll_nil r1
  obtain rfl : args = #[v0, v1] := by cases args; simp_all
  obtain ⟨x0, rfl, b0, _⟩ := open_vec ints_cov cells_cov ⟨_, Try.underlying25, rfl⟩ (hval 0 25 v0 rfl rfl) h0
  obtain ⟨x1, rfl, _, _, wf1⟩ := open_int Try.underlying2 (hval 1 2 v1 rfl rfl) h1
  have b1 := Go.bounds_i64 wf1
  refine (nothing_walk x0 x1 W).mono fun e W' ⟨he, hb⟩ => ?_
  subst he
  exact ⟨_, rfl, law_post (tb := 4) hW' rfl rfl Try.underlying4 rfl laid_out (by kernel_rfl) hb⟩
theorem biermanNothing_holds : Rows.BiermanNothingSaid :=
  OpenClaim.holds_of_wide 3 Try.f3 rfl rfl rfl rfl rfl rfl rfl ⟨rfl, rfl, rfl, rfl, rfl⟩ rfl rfl rfl rfl rfl (by kernel_rfl) Try.func3 (by kernel_rfl)
    (of_decide_eq_true (by kernel_rfl)) (by unfold Func.isWrapper; first | (rw [if_pos (by decide +kernel)]; kernel_rfl) | (rw [if_neg (by decide +kernel)]; exact ⟨rfl, rfl⟩))
    (fun os started H enc _ => biermanNothing_lifted os started H enc)
#print axioms biermanNothing_holds
end Go.Proofs.Ytkfapackpggagaa
