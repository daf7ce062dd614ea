/-
  The law OutputShifts answers true, whatever is given: on a jump every output shifts by just what was told, and the flag is not set. Conditions: none.
-/
import Derived.Test.YtpoiobgpggiebaaRows
import Derived.Test.YtpoiobgpggiebaaShifts27W
import Derived.Test.YtpoiobgpggiebaaS01
namespace Go.Proofs.Ytpoiobgpggiebaa
open Go.ChangeShapes Go.WideShapes Go.ChangeAt Go.RowKit
set_option maxRecDepth 100000 in
theorem outputShifts_lifted (os : Os) (started : os.Started) (H : Type) (enc : TypeId × Value → H) :
    ReturnsInHanded {} Try.checked os 4 .any (Rows.outputShiftsSpec.pre6 enc Try.prog Try.f4 Rows.outputShiftsRow.domain false) (Rows.outputShiftsSpec.post enc Try.prog Try.f4 false true false false) := by
  refine returnsInHanded_of_change (C := Try.checked) own_knob started (by kernel_rfl) Try.func4
    (ChangeSpec.witness6 (enc := enc) (C := Try.checked) false ⟨#[], #[.int .i64 0, .agg (Array.replicate 24 (.int .i64 0)), .slice none 0 0, .agg (Array.replicate 10 (.int .i64 0))], []⟩ 8 (by kernel_rfl) (by kernel_rfl) (by kernel_rfl) (by kernel_rfl)) ?_
  intro W base args ds gs before hval0 hW hcnd _
  have hval : ∀ (j : Nat) t v, Try.f4.params[j]? = some t → args[j]? = some v → Value.okWide Try.prog W .any base t v := hval0
  have hW' := hW
  obtain ⟨p, q, hA0, hV, rfl, hfz, hnd⟩ := hW
  have hA : DataW.TrodAll enc Try.prog W 0 (fun _ => true) true Try.f4.params.toList args.toList ds p := hA0
  rw [Try.params4] at hA hval
  obtain ⟨v0, vs0, d0, ds0, p0, q0, hargs, rfl, rfl, h0, r0⟩ := trodAll_cons hA
  obtain ⟨v1, vs1, d1, ds1, p1, q1, rfl, rfl, rfl, h1, r1⟩ := trodAll_cons r0
  obtain ⟨v2, vs2, d2, ds2, p2, q2, rfl, rfl, rfl, h2, r2⟩ := trodAll_cons r1
  obtain ⟨v3, vs3, d3, ds3, p3, q3, rfl, rfl, rfl, h3, r3⟩ := trodAll_cons r2
  obtain ⟨rfl, rfl, rfl⟩ := trodAll_nil r3
  obtain rfl : args = #[v0, v1, v2, v3] := by cases args; simp_all
  obtain ⟨x0, rfl, _, _, wf0⟩ := open_int Try.underlying3 (hval 0 3 v0 rfl rfl) h0
  have b0 := Go.bounds_i64 wf0
  obtain ⟨x1, rfl, b1, _⟩ := open_vec ints_st cells_st ⟨_, Try.underlying32, rfl⟩ (hval 1 32 v1 rfl rfl) h1
  obtain ⟨s2, n2, c2, x2, rfl, l2, m2, b2, z2⟩ := open_vecs Try.underlying40 ints_imu cells_imu (by omega) (hval 2 40 v2 rfl rfl) h2
  obtain ⟨x3, rfl, b3, _⟩ := open_vec ints_dl cells_dl ⟨_, Try.underlying45, rfl⟩ (hval 3 45 v3 rfl rfl) h3
  refine (shifts27_walk x0 x1 s2 n2 c2 x2 x3 W l2).mono fun e W' ⟨he, hb⟩ => ?_
  subst he
  exact ⟨_, rfl, law_post (tb := 4) hW' rfl rfl Try.underlying4 rfl laid_out (by kernel_rfl) hb⟩
theorem outputShifts_holds : Rows.OutputShiftsSaid :=
  OpenClaim.holds_of_wide 4 Try.f4 rfl rfl rfl rfl rfl rfl rfl ⟨rfl, rfl, rfl, rfl, rfl⟩ rfl rfl rfl rfl rfl (by kernel_rfl) Try.func4 (by kernel_rfl)
    (of_decide_eq_true (by kernel_rfl)) (by unfold Func.isWrapper; first | (rw [if_pos (by decide +kernel)]; kernel_rfl) | (rw [if_neg (by decide +kernel)]; exact ⟨rfl, rfl⟩))
    (fun os started H enc _ => outputShifts_lifted os started H enc)
#print axioms outputShifts_holds
end Go.Proofs.Ytpoiobgpggiebaa
