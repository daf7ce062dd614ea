/- thornton.Step's answer is good. No program. -/
import Derived.Test.YtglpbcionohipaaBkO
namespace Go.Proofs.Ytglpbcionohipaa
theorem outI_good (O W e : Nat → Int) {j : Nat} (hj : j < 24) : ∀ m, m ≤ j →
    (∀ x, x < 276 → (-1152921504606846976 ≤ O x ∧ O x ≤ 1152921504606846976) → -1152921504606846976 ≤ outI O W e j m x ∧ outI O W e j m x ≤ 1152921504606846976) ∧
    (∀ i, i ≠ j → outI O W e j m (276 + i) = O (276 + i)) ∧ outI O W e j m (276 + j) = stD W e j
  | 0, _ => by
    refine ⟨fun x hx h => ?_, fun i hi => ?_, ?_⟩
    · simp only [outI, upd]; rw [if_neg (by omega)]; exact h
    · simp only [outI, upd]; rw [if_neg (by omega)]
    · simp only [outI, upd, if_true]
  | m + 1, hm => by
    obtain ⟨h1, h2, h3⟩ := outI_good O W e hj m (by omega)
    have hp := pl_lt (i := m) (j := j) (by omega) hj
    refine ⟨fun x hx h => ?_, fun i hi => ?_, ?_⟩
    · simp only [outI, upd]
      split
      · unfold stU; exact divV_bd _ _ _
      · exact h1 x hx h
    · simp only [outI, upd]; rw [if_neg (by omega)]; exact h2 i hi
    · simp only [outI, upd]; rw [if_neg (by omega)]; exact h3
theorem ON_good (W e : Nat → Int) : ∀ n, n ≤ 24 → (∀ x, x < 276 → -1152921504606846976 ≤ ON W e n x ∧ ON W e n x ≤ 1152921504606846976) ∧
    ∀ i, i < 24 → 24 - n ≤ i → 1 ≤ ON W e n (276 + i) ∧ ON W e n (276 + i) ≤ 72057594037927936
  | 0, _ => ⟨fun x _ => by simp only [ON]; omega, fun i h1 h2 => by omega⟩
  | n + 1, hn => by
    obtain ⟨h1, h2⟩ := ON_good W e n (by omega)
    obtain ⟨g1, g2, g3⟩ := outI_good (ON W e n) (WN W e n) e (j := 23 - n) (by omega) (23 - n) (Nat.le_refl _)
    refine ⟨fun x hx => by simp only [ON]; exact g1 x hx (h1 x hx), fun i hi hi2 => ?_⟩
    simp only [ON]
    by_cases e1 : i = 23 - n
    · subst e1
      rw [g3]
      unfold stD
      exact varV_bd _
    · rw [g2 i e1]; exact h2 i hi (by omega)
theorem good_of {f : Nat → Int} (h1 : ∀ x, x < 276 → -1152921504606846976 ≤ f x ∧ f x ≤ 1152921504606846976) (h2 : ∀ i, i < 24 → 1 ≤ f (276 + i) ∧ f (276 + i) ≤ 72057594037927936) : condH f = false := by
  unfold condH
  rw [orB_no, orB_no]; rfl
  · intro i hi; exact satH_no (h1 i hi).1 (h1 i hi).2
  · intro i hi; exact (varV_id (h2 i hi).1 (h2 i hi).2).2
theorem step_good (f F q : Nat → Int) : condH (stepF f F q) = false := by
  obtain ⟨h1, h2⟩ := ON_good (stepW f F) (stepE f q) 24 (Nat.le_refl _)
  exact good_of h1 fun i hi => h2 i hi (by omega)
end Go.Proofs.Ytglpbcionohipaa
