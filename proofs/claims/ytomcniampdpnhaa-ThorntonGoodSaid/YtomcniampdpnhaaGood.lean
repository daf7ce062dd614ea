/-
  The law ThorntonGood answers true, whatever is given: the step's answer is good, and With is the step with One and the noises. Conditions: none.
-/
import Derived.Test.YtomcniampdpnhaaRows
import Derived.Test.YtomcniampdpnhaaGoodW
import Derived.Test.YtomcniampdpnhaaJoin
namespace Go.Proofs.Ytomcniampdpnhaa
open Go.ChangeShapes Go.WideShapes Go.ChangeAt Go.RowKit
set_option maxRecDepth 100000 in
theorem thorntonGood_lifted (os : Os) (started : os.Started) (H : Type) (enc : TypeId × Value → H) :
    ReturnsInHanded {} Try.checked os 3 .any (Rows.thorntonGoodSpec.pre6 enc Try.prog Try.f3 Rows.thorntonGoodRow.domain false) (Rows.thorntonGoodSpec.post enc Try.prog Try.f3 false true false false) := by
  refine returnsInHanded_of_change (C := Try.checked) own_knob started (by kernel_rfl) Try.func3
    (ChangeSpec.witness6 (enc := enc) (C := Try.checked) false ⟨#[], #[.agg (Array.replicate 300 (.int .i64 0)), .agg (Array.replicate 576 (.int .i64 0)), .agg (Array.replicate 24 (.int .i64 0)), .slice none 0 0], []⟩ 8 (by kernel_rfl) (by kernel_rfl) (by kernel_rfl) (by kernel_rfl)) ?_
  intro W base args ds gs before hval0 hW hcnd _
  have hval : ∀ (j : Nat) t v, Try.f3.params[j]? = some t → args[j]? = some v → Value.okWide Try.prog W .any base t v := hval0
  have hW' := hW
  obtain ⟨p, q, hA0, hV, rfl, hfz, hnd⟩ := hW
  have hA : DataW.TrodAll enc Try.prog W 0 (fun _ => true) true Try.f3.params.toList args.toList ds p := hA0
  rw [Try.params3] at hA hval
  obtain ⟨v0, v1, v2, v3, d0, d1, d2, d3, p0, p1, p2, p3, rfl, rfl, rfl, h0, h1, h2, h3⟩ := trodAll_four hA
  obtain ⟨f, rfl, _, _⟩ := open_vec ints_cov cells_cov ⟨_, Try.underlying25, rfl⟩ (hval 0 25 v0 rfl rfl) h0
  obtain ⟨F, rfl, _, _⟩ := open_vec ints_mat cells_mat ⟨_, Try.underlying27, rfl⟩ (hval 1 27 v1 rfl rfl) h1
  obtain ⟨q, rfl, _, _⟩ := open_vec ints_col cells_col ⟨_, Try.underlying23, rfl⟩ (hval 2 23 v2 rfl rfl) h2
  obtain ⟨p, n, cp, L, rfl, hL, _, _⟩ := open_slc Try.underlying28 Try.underlying2 cells_i64 (hval 3 28 v3 rfl rfl) h3
  refine (good_walk f F q p n cp L W hL).mono fun e W' ⟨he, hb⟩ => ?_
  subst he
  exact ⟨_, rfl, law_post (tb := 4) hW' rfl rfl Try.underlying4 rfl laid_out (by kernel_rfl) hb⟩
theorem and_mk {a b : Bool} (h1 : a = true) (h2 : b = true) : (a && b) = true := by rw [h1, h2]; rfl
set_option maxHeartbeats 4000000 in
theorem thorntonGood_facts : joinedFacts Try.pinned.checked.prog 3 Try.f3 Rows.thorntonGoodSpec Rows.thorntonGoodRow = true := by
  unfold joinedFacts
  repeat' (with_reducible apply and_mk)
  all_goals (as_aux_lemma => kernel_rfl)
theorem thorntonGood_name : Try.pinned.checked.prog.funcNamed Rows.thorntonGoodRow.func = some 3 := by kernel_rfl
theorem thorntonGood_wrap : Try.f3.isWrapper Try.pinned.checked.prog Rows.thorntonGoodRow.wrapper Rows.thorntonGoodRow.mainSum := by unfold Func.isWrapper; first | (rw [if_pos (by decide +kernel)]; kernel_rfl) | (rw [if_neg (by decide +kernel)]; exact ⟨rfl, rfl⟩)
theorem thorntonGood_holds : Rows.ThorntonGoodSaid :=
  OpenClaim.holds_of_wide 3 Try.f3 rfl rfl rfl rfl rfl rfl rfl ⟨rfl, rfl, rfl, rfl, rfl⟩ rfl rfl rfl rfl rfl thorntonGood_name Try.func3 thorntonGood_facts
    (of_decide_eq_true (by kernel_rfl)) thorntonGood_wrap
    (fun os started H enc _ => thorntonGood_lifted os started H enc)
#print axioms thorntonGood_holds
end Go.Proofs.Ytomcniampdpnhaa
