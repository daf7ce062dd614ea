/-
  The law OutputCalm answers true, whatever is given: an estimate that is just the output of its time corrects nothing. Conditions: none.
-/
import Derived.Test.YtpoiobgpggiebaaRows
import Derived.Test.YtpoiobgpggiebaaCalm27W
import Derived.Test.YtpoiobgpggiebaaQ22
namespace Go.Proofs.Ytpoiobgpggiebaa
open Go.ChangeShapes Go.WideShapes Go.ChangeAt Go.RowKit
set_option maxRecDepth 100000 in
theorem outputCalm_lifted (os : Os) (started : os.Started) (H : Type) (enc : TypeId × Value → H) :
    ReturnsInHanded {} Try.checked os 7 .any (Rows.outputCalmSpec.pre6 enc Try.prog Try.f7 Rows.outputCalmRow.domain false) (Rows.outputCalmSpec.post enc Try.prog Try.f7 false true false false) := by
  refine returnsInHanded_of_change (C := Try.checked) own_knob started (by kernel_rfl) Try.func7
    (ChangeSpec.witness6 (enc := enc) (C := Try.checked) false ⟨#[], #[.int .i64 0, .int .i64 0, .agg (Array.replicate 24 (.int .i64 0)), .slice none 0 0, .int .i64 0], []⟩ 8 (by kernel_rfl) (by kernel_rfl) (by kernel_rfl) (by kernel_rfl)) ?_
  intro W base args ds gs before hval0 hW hcnd _
  have hval : ∀ (j : Nat) t v, Try.f7.params[j]? = some t → args[j]? = some v → Value.okWide Try.prog W .any base t v := hval0
  have hW' := hW
  obtain ⟨p, q, hA0, hV, rfl, hfz, hnd⟩ := hW
  have hA : DataW.TrodAll enc Try.prog W 0 (fun _ => true) true Try.f7.params.toList args.toList ds p := hA0
  rw [Try.params7] at hA hval
  obtain ⟨v0, vs0, d0, ds0, p0, q0, hargs, rfl, rfl, h0, r0⟩ := trodAll_cons hA
  obtain ⟨v1, vs1, d1, ds1, p1, q1, rfl, rfl, rfl, h1, r1⟩ := trodAll_cons r0
  obtain ⟨v2, vs2, d2, ds2, p2, q2, rfl, rfl, rfl, h2, r2⟩ := trodAll_cons r1
  obtain ⟨v3, vs3, d3, ds3, p3, q3, rfl, rfl, rfl, h3, r3⟩ := trodAll_cons r2
  obtain ⟨v4, vs4, d4, ds4, p4, q4, rfl, rfl, rfl, h4, r4⟩ := trodAll_cons r3
  obtain ⟨rfl, rfl, rfl⟩ := trodAll_nil r4
  obtain rfl : args = #[v0, v1, v2, v3, v4] := by cases args; simp_all
  obtain ⟨x0, rfl, _, _, wf0⟩ := open_int Try.underlying3 (hval 0 3 v0 rfl rfl) h0
  have b0 := Go.bounds_i64 wf0
  obtain ⟨x1, rfl, _, _, wf1⟩ := open_int Try.underlying2 (hval 1 2 v1 rfl rfl) h1
  have b1 := Go.bounds_i64 wf1
  obtain ⟨x2, rfl, b2, _⟩ := open_vec ints_st cells_st ⟨_, Try.underlying32, rfl⟩ (hval 2 32 v2 rfl rfl) h2
  obtain ⟨s3, n3, c3, x3, rfl, l3, m3, b3, z3⟩ := open_vecs Try.underlying40 ints_imu cells_imu (by omega) (hval 3 40 v3 rfl rfl) h3
  obtain ⟨x4, rfl, _, _, wf4⟩ := open_int Try.underlying3 (hval 4 3 v4 rfl rfl) h4
  have b4 := Go.bounds_i64 wf4
  refine (calm27_walk x0 x1 x2 s3 n3 c3 x3 x4 W l3).mono fun e W' ⟨he, hb⟩ => ?_
  subst he
  exact ⟨_, rfl, law_post (tb := 4) hW' rfl rfl Try.underlying4 rfl laid_out (by kernel_rfl) hb⟩
theorem outputCalm_holds : Rows.OutputCalmSaid :=
  OpenClaim.holds_of_wide 7 Try.f7 rfl rfl rfl rfl rfl rfl rfl ⟨rfl, rfl, rfl, rfl, rfl⟩ rfl rfl rfl rfl rfl (by kernel_rfl) Try.func7 (by kernel_rfl)
    (of_decide_eq_true (by kernel_rfl)) (by unfold Func.isWrapper; first | (rw [if_pos (by decide +kernel)]; kernel_rfl) | (rw [if_neg (by decide +kernel)]; exact ⟨rfl, rfl⟩))
    (fun os started H enc _ => outputCalm_lifted os started H enc)
#print axioms outputCalm_holds
end Go.Proofs.Ytpoiobgpggiebaa
