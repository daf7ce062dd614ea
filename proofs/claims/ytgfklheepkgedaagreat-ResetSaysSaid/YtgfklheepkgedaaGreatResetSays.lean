/-
 The law ResetSays answers true, whatever is given: each jump, of any estimate and factors, and what is told of it, is what the document says, with the flag. Conditions: none.
-/
import Derived.Test.YtgfklheepkgedaaGreatRows
import Derived.Test.YtgfklheepkgedaaGreatQ26
import Derived.Test.YtgfklheepkgedaaGreatQ27
namespace Go.Proofs.YtgfklheepkgedaaGreat
open Go.ChangeShapes Go.WideShapes Go.ChangeAt Go.RowKit
set_option maxRecDepth 100000 in
theorem resetSays_lifted (os : Os) (started : os.Started) (H : Type) (enc : TypeId × Value → H) :
  ReturnsInHanded {} Tryz.checked os 3 .any (Rows.resetSaysSpec.pre6 enc Tryz.prog Tryz.f3 Rows.resetSaysRow.domain false) (Rows.resetSaysSpec.post enc Tryz.prog Tryz.f3 false true false false) := by
 refine returnsInHanded_of_change (C := Tryz.checked) own_knob started (by kernel_rfl) Tryz.func3
  (ChangeSpec.witness6 (enc := enc) (C := Tryz.checked) false ⟨#[], #[.agg (Array.replicate 24 (.int .i64 0)), .agg (Array.replicate 300 (.int .i64 0)), .agg (Array.replicate 3 (.int .i64 0)), .int .i64 0, .int .i64 0], []⟩ 8 (by kernel_rfl) (by kernel_rfl) (by kernel_rfl) (by kernel_rfl)) ?_
 intro W base args ds gs before hval0 hW hcnd _
 have hval : ∀ (j : Nat) t v, Tryz.f3.params[j]? = some t → args[j]? = some v → Value.okWide Tryz.prog W .any base t v := hval0
 have hW' := hW
 obtain ⟨p, q, hA0, hV, rfl, hfz, hnd⟩ := hW
 have hA : DataW.TrodAll enc Tryz.prog W 0 (fun _ => true) true Tryz.f3.params.toList args.toList ds p := hA0
 rw [Tryz.params3] at hA hval
 obtain ⟨v0, vs0, d0, ds0, p0, q0, hargs, rfl, rfl, h0, r0⟩ := trodAll_cons hA
 obtain ⟨v1, vs1, d1, ds1, p1, q1, rfl, rfl, rfl, h1, r1⟩ := trodAll_cons r0
 obtain ⟨v2, vs2, d2, ds2, p2, q2, rfl, rfl, rfl, h2, r2⟩ := trodAll_cons r1
 obtain ⟨v3, vs3, d3, ds3, p3, q3, rfl, rfl, rfl, h3, r3⟩ := trodAll_cons r2
 obtain ⟨v4, vs4, d4, ds4, p4, q4, rfl, rfl, rfl, h4, r4⟩ := trodAll_cons r3
 obtain ⟨rfl, rfl, rfl⟩ := trodAll_nil r4
 obtain rfl : args = #[v0, v1, v2, v3, v4] := by cases args; simp_all
 obtain ⟨x0, rfl, b0, _⟩ := open_vec ints_st cells_st ⟨_, Tryz.underlying23, rfl⟩ (hval 0 23 v0 rfl rfl) h0
 obtain ⟨x1, rfl, b1, _⟩ := open_vec ints_cov cells_cov ⟨_, Tryz.underlying26, rfl⟩ (hval 1 26 v1 rfl rfl) h1
 obtain ⟨x2, rfl, b2, _⟩ := open_vec ints_v3 cells_v3 ⟨_, Tryz.underlying28, rfl⟩ (hval 2 28 v2 rfl rfl) h2
 obtain ⟨x3, rfl, _, _, wf3⟩ := open_int Tryz.underlying2 (hval 3 2 v3 rfl rfl) h3
 have b3 := Go.bounds_i64 wf3
 obtain ⟨x4, rfl, _, _, wf4⟩ := open_int Tryz.underlying2 (hval 4 2 v4 rfl rfl) h4
 have b4 := Go.bounds_i64 wf4
 refine (says26_walk x0 x1 x2 x3 x4 W).mono fun e W' ⟨he, hb⟩ => ?_
 subst he
 exact ⟨_, rfl, law_post (tb := 4) hW' rfl rfl Tryz.underlying4 rfl laid_out (by kernel_rfl) hb⟩
theorem resetSays_holds : Rows.ResetSaysSaid :=
 OpenClaim.holds_of_wide 3 Tryz.f3 rfl rfl rfl rfl rfl rfl rfl ⟨rfl, rfl, rfl, rfl, rfl⟩ rfl rfl rfl rfl rfl (by kernel_rfl) Tryz.func3 (by kernel_rfl)
  (of_decide_eq_true (by kernel_rfl)) (by unfold Func.isWrapper; first | (rw [if_pos (by decide +kernel)]; kernel_rfl) | (rw [if_neg (by decide +kernel)]; exact ⟨rfl, rfl⟩))
  (fun os started H enc _ => resetSays_lifted os started H enc)
#print axioms resetSays_holds
end Go.Proofs.YtgfklheepkgedaaGreat
