/- Plain laws of Keep, Add, With, Part. -/
import Derived.Test.YtcbklolfibdffaaClampsW
namespace Go.Proofs.Ytcbklolfibdffaa
theorem sum4_congr {A B : Nat → Int} (h : ∀ i, i < 4 → A i = B i) : sum4 A = sum4 B := by
  unfold sum4; rw [h 0 (by decide), h 1 (by decide), h 2 (by decide), h 3 (by decide)]
theorem unitQ_congr {A B : Nat → Int} (h : ∀ i, i < 4 → A i = B i) (u : UnitQ A) : UnitQ B := by
  refine ⟨fun i hi => by rw [← h i hi]; exact u.1 i hi, ?_, ?_⟩
  · rw [← h 0 (by decide), ← h 1 (by decide), ← h 2 (by decide), ← h 3 (by decide)]; exact u.2.1
  · rw [← h 0 (by decide), ← h 1 (by decide), ← h 2 (by decide), ← h 3 (by decide)]; exact u.2.2
theorem clmF_lo (X : Nat → Int) {i : Nat} (h : i < 4) : clmF X i = X i := by unfold clmF; rw [if_pos h]
theorem clampV_box (x M : Int) (hM : 0 ≤ M) : -M ≤ clampV x (-M) M ∧ clampV x (-M) M ≤ M := by
  unfold clampV; rw [if_neg (by omega)]; split
  · omega
  · split <;> omega
theorem boxF_lo {i : Nat} (h : i < 4) : boxF i = 1073741840 := by unfold boxF; rw [if_pos h]
/-- What is clamped, of a Unit's quaternion, is good. -/
theorem clm_good (X : Nat → Int) (u : UnitQ X) : goodB (clmF X) = true := by
  unfold goodB
  rw [Bool.and_eq_true]
  refine ⟨boxQ_iff.2 fun i hi => ?_, (unitB_iff _).2 (unitQ_congr (fun i hi => (clmF_lo X hi).symm) u)⟩
  by_cases h : i < 4
  · rw [clmF_lo X h, boxF_lo h]; exact u.1 i h
  · unfold clmF; rw [if_neg h]; exact clampV_box _ _ (by have := boxF_bd i; omega)
theorem turnd_unit (S Q : Nat → Int) (u : UnitQ Q) : UnitQ (turnd S Q) := unitQ_congr (fun i hi => by unfold turnd; rw [if_pos hi]) u
theorem keep_good (S : Nat → Int) : goodB (keepF S) = true := by
  refine clm_good _ ?_
  unfold keepI
  split
  · rename_i h; exact (unitB_iff S).1 h
  · exact turnd_unit _ _ (unit_good S)
theorem add_good (S D : Nat → Int) : goodB (add1F S D) = true := clm_good _ (turnd_unit _ _ (unit_good _))
theorem good_parts {K : Nat → Int} (h : goodB K = true) : (∀ i, i < 24 → -(boxF i) ≤ K i ∧ K i ≤ boxF i) ∧ unitB K = true := by
  unfold goodB at h
  rw [Bool.and_eq_true] at h
  exact ⟨boxQ_iff.1 h.1, h.2⟩
theorem clampV_id {x M : Int} (h : -M ≤ x ∧ x ≤ M) : clampV x (-M) M = x ∧ clampH x (-M) M = false := by
  unfold clampV clampH; rw [if_neg (by omega), if_neg (by omega), if_neg (by omega)]; simp; omega
theorem orB_false {p : Nat → Bool} : ∀ {n : Nat}, (∀ i, i < n → p i = false) → orB p n = false
  | 0, _ => rfl
  | n + 1, h => by simp only [orB]; rw [orB_false fun i hi => h i (by omega), h n (by omega)]; rfl
theorem clm_fix {K : Nat → Int} (h : ∀ i, i < 24 → -(boxF i) ≤ K i ∧ K i ≤ boxF i) : (∀ i, i < 24 → clmF K i = K i) ∧ clmH K = false := by
  refine ⟨fun i hi => ?_, orB_false fun i hi => (clampV_id (h (4 + i) (by omega))).2⟩
  unfold clmF; split
  · rfl
  · exact (clampV_id (h i hi)).1
/-- What is good is kept as it is. -/
theorem keep_fix {K : Nat → Int} (h : goodB K = true) : (∀ i, i < 24 → keepF K i = K i) ∧ keepH K = false := by
  obtain ⟨h1, h2⟩ := good_parts h
  have e : keepI K = K := by unfold keepI; rw [if_pos h2]
  obtain ⟨c1, c2⟩ := clm_fix h1
  unfold keepF keepH
  rw [if_pos h2, e]
  exact ⟨c1, by rw [c2]; rfl⟩
theorem addV_0 {a : Int} (h : -9007199254740992 ≤ a ∧ a ≤ 9007199254740992) : addV a 0 = a ∧ addH a 0 = false := by
  have e1 : satV a = a := satV_id (by omega) (by omega)
  have e0 : satV 0 = 0 := by decide
  unfold addV addH
  rw [e1, e0, Int.add_zero]
  refine ⟨e1, ?_⟩
  rw [satH_no (a := a) (by omega) (by omega)]; rfl
/-- Noughts added to what is good. -/
theorem add_zero {K : Nat → Int} (h : goodB K = true) : (∀ i, i < 24 → 4 ≤ i → add1F K (fun _ => 0) i = K i) ∧ add1H K (fun _ => 0) = false := by
  obtain ⟨h1, h2⟩ := good_parts h
  have hb : ∀ i, i < 24 → -9007199254740992 ≤ K i ∧ K i ≤ 9007199254740992 := fun i hi => by have := h1 i hi; have := boxF_bd i; omega
  have hs : ∀ i, i < 24 → sumA K (fun _ => 0) i = K i := fun i hi => (addV_0 (hb i hi)).1
  have hT : ∀ i, i < 24 → 4 ≤ i → turnd (sumA K (fun _ => 0)) (uniV (sumA K (fun _ => 0))) i = K i := fun i hi h4 => by unfold turnd; rw [if_neg (by omega), hs i hi]
  refine ⟨fun i hi h4 => ?_, ?_⟩
  · unfold add1F clmF
    rw [if_neg (by omega), hT i hi h4]
    exact (clampV_id (h1 i hi)).1
  · unfold add1H
    rw [orB_false fun i hi => (addV_0 (hb i hi)).2, unit_calm _ fun i hi => by rw [hs i (by omega)]; have := hb i (by omega); omega]
    simp only [Bool.false_or]
    refine orB_false fun i hi => ?_
    unfold clmP
    rw [hT (4 + i) (by omega) (by omega)]
    exact (clampV_id (h1 (4 + i) (by omega))).2
end Go.Proofs.Ytcbklolfibdffaa
