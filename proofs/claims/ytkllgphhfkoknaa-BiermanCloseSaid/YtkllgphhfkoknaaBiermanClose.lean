/-
  The law BiermanClose answers true, whatever is given: the covariance that is made is P - P h' h P / s within 2^26, the gain within 2^16, of factors, row and variance within the law's bounds, and the flag is not set. Conditions: none.
-/
import Derived.Test.YtkllgphhfkoknaaRows
import Derived.Test.YtkllgphhfkoknaaClo11W
import Derived.Test.YtkllgphhfkoknaaQ11
namespace Go.Proofs.Ytkllgphhfkoknaa
open Go.ChangeShapes Go.WideShapes Go.ChangeAt Go.RowKit
set_option maxRecDepth 100000 in
theorem biermanClose_lifted (os : Os) (started : os.Started) (H : Type) (enc : TypeId × Value → H) :
    ReturnsInHanded {} Try.checked os 3 .any (Rows.biermanCloseSpec.pre6 enc Try.prog Try.f3 Rows.biermanCloseRow.domain false) (Rows.biermanCloseSpec.post enc Try.prog Try.f3 false true false false) := by
  refine returnsInHanded_of_change (C := Try.checked) own_knob started (by kernel_rfl) Try.func3
    (ChangeSpec.witness6 (enc := enc) (C := Try.checked) false ⟨#[], #[.agg (Array.replicate 300 (.int .i64 0)), .agg (Array.replicate 24 (.int .i64 0)), .int .i64 0, .int .i64 0, .int .i64 0], []⟩ 8 (by kernel_rfl) (by kernel_rfl) (by kernel_rfl) (by kernel_rfl)) ?_
  intro W base args ds gs before hval0 hW hcnd _
  have hval : ∀ (j : Nat) t v, Try.f3.params[j]? = some t → args[j]? = some v → Value.okWide Try.prog W .any base t v := hval0
  have hW' := hW
  obtain ⟨p, q, hA0, hV, rfl, hfz, hnd⟩ := hW
  have hA : DataW.TrodAll enc Try.prog W 0 (fun _ => true) true Try.f3.params.toList args.toList ds p := hA0
  rw [Try.params3] at hA hval
  obtain ⟨v0, vs0, d0, ds0, p0, q0, hargs, rfl, rfl, h0, r0⟩ := trodAll_cons hA
  obtain ⟨v1, vs1, d1, ds1, p1, q1, rfl, rfl, rfl, h1, r1⟩ := trodAll_cons r0
  obtain ⟨v2, vs2, d2, ds2, p2, q2, rfl, rfl, rfl, h2, r2⟩ := trodAll_cons r1
  obtain ⟨v3, vs3, d3, ds3, p3, q3, rfl, rfl, rfl, h3, r3⟩ := trodAll_cons r2
  obtain ⟨v4, vs4, d4, ds4, p4, q4, rfl, rfl, rfl, h4, r4⟩ := trodAll_cons r3
  obtain ⟨rfl, rfl, rfl⟩ := trodAll_nil r4
  obtain rfl : args = #[v0, v1, v2, v3, v4] := by cases args; simp_all
  obtain ⟨x0, rfl, b0, _⟩ := open_vec ints_cov cells_cov ⟨_, Try.underlying25, rfl⟩ (hval 0 25 v0 rfl rfl) h0
  obtain ⟨x1, rfl, b1, _⟩ := open_vec ints_row cells_row ⟨_, Try.underlying26, rfl⟩ (hval 1 26 v1 rfl rfl) h1
  obtain ⟨x2, rfl, _, _, wf2⟩ := open_int Try.underlying2 (hval 2 2 v2 rfl rfl) h2
  have b2 := Go.bounds_i64 wf2
  obtain ⟨x3, rfl, _, _, wf3⟩ := open_int Try.underlying3 (hval 3 3 v3 rfl rfl) h3
  have b3 := Go.bounds_i64 wf3
  obtain ⟨x4, rfl, _, _, wf4⟩ := open_int Try.underlying3 (hval 4 3 v4 rfl rfl) h4
  have b4 := Go.bounds_i64 wf4
  refine (bcl_walk x0 x1 x2 x3 x4 W).mono fun e W' ⟨he, hb⟩ => ?_
  subst he
  exact ⟨_, rfl, law_post (tb := 4) hW' rfl rfl Try.underlying4 rfl laid_out (by kernel_rfl) hb⟩
theorem biermanClose_holds : Rows.BiermanCloseSaid :=
  OpenClaim.holds_of_wide 3 Try.f3 rfl rfl rfl rfl rfl rfl rfl ⟨rfl, rfl, rfl, rfl, rfl⟩ rfl rfl rfl rfl rfl (by kernel_rfl) Try.func3 (by kernel_rfl)
    (of_decide_eq_true (by kernel_rfl)) (by unfold Func.isWrapper; first | (rw [if_pos (by decide +kernel)]; kernel_rfl) | (rw [if_neg (by decide +kernel)]; exact ⟨rfl, rfl⟩))
    (fun os started H enc _ => biermanClose_lifted os started H enc)
#print axioms biermanClose_holds
end Go.Proofs.Ytkllgphhfkoknaa
