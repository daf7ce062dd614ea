/-
  The law StrapTurns answers true, whatever is given: a body that turns about its upright axis at rest has turned by the angles together, within the roundings. Conditions: none.
-/
import Derived.Test.YtgpnopiinogkmaaRows
import Derived.Test.YtgpnopiinogkmaaTurns16W
import Derived.Test.YtgpnopiinogkmaaQ20
namespace Go.Proofs.Ytgpnopiinogkmaa
open Go.ChangeShapes Go.WideShapes Go.ChangeAt Go.RowKit
set_option maxRecDepth 100000 in
theorem strapTurns_lifted (os : Os) (started : os.Started) (H : Type) (enc : TypeId × Value → H) :
    ReturnsInHanded {} Try.checked os 3 .any (Rows.strapTurnsSpec.pre6 enc Try.prog Try.f3 Rows.strapTurnsRow.domain false) (Rows.strapTurnsSpec.post enc Try.prog Try.f3 false true false false) := by
  refine returnsInHanded_of_change (C := Try.checked) own_knob started (by kernel_rfl) Try.func3
    (ChangeSpec.witness6 (enc := enc) (C := Try.checked) false ⟨#[], #[.int .i64 0, .int .i64 0, .int .i64 0], []⟩ 8 (by kernel_rfl) (by kernel_rfl) (by kernel_rfl) (by kernel_rfl)) ?_
  intro W base args ds gs before hval0 hW hcnd _
  have hval : ∀ (j : Nat) t v, Try.f3.params[j]? = some t → args[j]? = some v → Value.okWide Try.prog W .any base t v := hval0
  have hW' := hW
  obtain ⟨p, q, hA0, hV, rfl, hfz, hnd⟩ := hW
  have hA : DataW.TrodAll enc Try.prog W 0 (fun _ => true) true Try.f3.params.toList args.toList ds p := hA0
  rw [Try.params3] at hA hval
  obtain ⟨v0, vs0, d0, ds0, p0, q0, hargs, rfl, rfl, h0, r0⟩ := trodAll_cons hA
  obtain ⟨v1, vs1, d1, ds1, p1, q1, rfl, rfl, rfl, h1, r1⟩ := trodAll_cons r0
  obtain ⟨v2, vs2, d2, ds2, p2, q2, rfl, rfl, rfl, h2, r2⟩ := trodAll_cons r1
  obtain ⟨rfl, rfl, rfl⟩ := trodAll_nil r2
  obtain rfl : args = #[v0, v1, v2] := by cases args; simp_all
  obtain ⟨x0, rfl, _, _, wf0⟩ := open_int Try.underlying2 (hval 0 2 v0 rfl rfl) h0
  have b0 := Go.bounds_i64 wf0
  obtain ⟨x1, rfl, _, _, wf1⟩ := open_int Try.underlying2 (hval 1 2 v1 rfl rfl) h1
  have b1 := Go.bounds_i64 wf1
  obtain ⟨x2, rfl, _, _, wf2⟩ := open_int Try.underlying3 (hval 2 3 v2 rfl rfl) h2
  have b2 := Go.bounds_i64 wf2
  refine (turns16_walk x0 x1 x2 W ⟨by omega, by omega⟩).mono fun e W' ⟨he, hb⟩ => ?_
  subst he
  exact ⟨_, rfl, law_post (tb := 4) hW' rfl rfl Try.underlying4 rfl laid_out (by kernel_rfl) hb⟩
theorem strapTurns_holds : Rows.StrapTurnsSaid :=
  OpenClaim.holds_of_wide 3 Try.f3 rfl rfl rfl rfl rfl rfl rfl ⟨rfl, rfl, rfl, rfl, rfl⟩ rfl rfl rfl rfl rfl (by kernel_rfl) Try.func3 (by kernel_rfl)
    (of_decide_eq_true (by kernel_rfl)) (by unfold Func.isWrapper; first | (rw [if_pos (by decide +kernel)]; kernel_rfl) | (rw [if_neg (by decide +kernel)]; exact ⟨rfl, rfl⟩))
    (fun os started H enc _ => strapTurns_lifted os started H enc)
#print axioms strapTurns_holds
end Go.Proofs.Ytgpnopiinogkmaa
