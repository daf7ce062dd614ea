/-
  The law ResetJoins answers true, whatever is given: jumps are joined as the document says, with the flag. Conditions: none.
-/
import Derived.Test.YtgfklheepkgedaaGreatRows
import Derived.Test.YtgfklheepkgedaaGreatJoins26W
import Derived.Test.YtgfklheepkgedaaGreatQ23
namespace Go.Proofs.YtgfklheepkgedaaGreat
open Go.ChangeShapes Go.WideShapes Go.ChangeAt Go.RowKit
set_option maxRecDepth 100000 in
theorem resetJoins_lifted (os : Os) (started : os.Started) (H : Type) (enc : TypeId × Value → H) :
    ReturnsInHanded {} Tryz.checked os 4 .any (Rows.resetJoinsSpec.pre6 enc Tryz.prog Tryz.f4 Rows.resetJoinsRow.domain false) (Rows.resetJoinsSpec.post enc Tryz.prog Tryz.f4 false true false false) := by
  refine returnsInHanded_of_change (C := Tryz.checked) own_knob started (by kernel_rfl) Tryz.func4
    (ChangeSpec.witness6 (enc := enc) (C := Tryz.checked) false ⟨#[], #[.slice none 0 0], []⟩ 8 (by kernel_rfl) (by kernel_rfl) (by kernel_rfl) (by kernel_rfl)) ?_
  intro W base args ds gs before hval0 hW hcnd _
  have hval : ∀ (j : Nat) t v, Tryz.f4.params[j]? = some t → args[j]? = some v → Value.okWide Tryz.prog W .any base t v := hval0
  have hW' := hW
  obtain ⟨p, q, hA0, hV, rfl, hfz, hnd⟩ := hW
  have hA : DataW.TrodAll enc Tryz.prog W 0 (fun _ => true) true Tryz.f4.params.toList args.toList ds p := hA0
  rw [Tryz.params4] at hA hval
  obtain ⟨v0, vs0, d0, ds0, p0, q0, hargs, rfl, rfl, h0, r0⟩ := trodAll_cons hA
  obtain ⟨rfl, rfl, rfl⟩ := trodAll_nil r0
  obtain rfl : args = #[v0] := by cases args; simp_all
  obtain ⟨s0, n0, c0, x0, rfl, l0, m0, b0, z0⟩ := open_vecs Tryz.underlying57 ints_dl cells_dl (by omega) (hval 0 57 v0 rfl rfl) h0
  refine (joins26_walk s0 n0 c0 x0 W l0).mono fun e W' ⟨he, hb⟩ => ?_
  subst he
  exact ⟨_, rfl, law_post (tb := 4) hW' rfl rfl Tryz.underlying4 rfl laid_out (by kernel_rfl) hb⟩
theorem resetJoins_holds : Rows.ResetJoinsSaid :=
  OpenClaim.holds_of_wide 4 Tryz.f4 rfl rfl rfl rfl rfl rfl rfl ⟨rfl, rfl, rfl, rfl, rfl⟩ rfl rfl rfl rfl rfl (by kernel_rfl) Tryz.func4 (by kernel_rfl)
    (of_decide_eq_true (by kernel_rfl)) (by unfold Func.isWrapper; first | (rw [if_pos (by decide +kernel)]; kernel_rfl) | (rw [if_neg (by decide +kernel)]; exact ⟨rfl, rfl⟩))
    (fun os started H enc _ => resetJoins_lifted os started H enc)
#print axioms resetJoins_holds
end Go.Proofs.YtgfklheepkgedaaGreat
