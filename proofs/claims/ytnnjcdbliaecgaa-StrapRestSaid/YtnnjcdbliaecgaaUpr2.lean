/- An upright body's step. No program. -/
import Derived.Test.YtnnjcdbliaecgaaUpr1
namespace Go.Proofs.Ytnnjcdbliaecgaa
theorem putF_in {f F : Nat → Int} {o n i : Nat} (h : o ≤ i) (h2 : i < o + n) : putF f o n F i = F (i - o) := by unfold putF; rw [if_pos ⟨h, h2⟩]
theorem putF_out {f F : Nat → Int} {o n i : Nat} (h : i < o ∨ o + n ≤ i) : putF f o n F i = f i := by unfold putF; rw [if_neg (by omega)]
/-- A sample's parts. -/
theorem spF_at (S I : Nat → Int) : spF S I 0 = secV (I 1) ∧ (∀ k, k < 3 → spF S I (4 + k) = spA S I 13 5 (secV (I 1)) k) ∧ (∀ k, k < 4 → spF S I (7 + k) = exV (spA S I 10 2 (secV (I 1))) k) ∧ (∀ k, k < 9 → spF S I (11 + k) = roV S k) := by
  unfold spF
  obtain ⟨t, ht⟩ : ∃ t, secV (I 1) = t := ⟨_, rfl⟩
  rw [ht]
  obtain ⟨X1, h1⟩ : ∃ X, spA S I 10 2 t = X := ⟨_, rfl⟩
  obtain ⟨X2, h2⟩ : ∃ X, spA S I 13 5 t = X := ⟨_, rfl⟩
  obtain ⟨X3, h3⟩ : ∃ X, exV X1 = X := ⟨_, rfl⟩
  obtain ⟨X4, h4⟩ : ∃ X, roV S = X := ⟨_, rfl⟩
  rw [h1, h2, h3, h4]
  clear h1 h2 h3 h4 ht
  refine ⟨?_, fun k hk => ?_, fun k hk => ?_, fun k hk => ?_⟩
  · rw [putF_out (by omega), putF_out (by omega), putF_out (by omega), putF_out (by omega)]; exact if_pos rfl
  · rw [putF_out (by omega), putF_out (by omega), putF_in (by omega) (by omega), show 4 + k - 4 = k by omega]
  · rw [putF_out (by omega), putF_in (by omega) (by omega), show 7 + k - 7 = k by omega]
  · rw [putF_in (by omega) (by omega), show 11 + k - 11 = k by omega]
theorem boxF_hi {i : Nat} (h : 24 ≤ i) : boxF i = 137438953472 := by
  unfold boxF; rw [if_neg (by omega), if_neg (by omega), if_neg (by omega), if_neg (by omega), if_neg (by omega), if_neg (by omega)]
/-- What is good, and nought beyond, is kept as it is. -/
theorem keep_self {S : Nat → Int} (hg : goodB S = true) (hz : ∀ i, 24 ≤ i → S i = 0) : keepF S = S ∧ keepH S = false := by
  have k := keep_fix hg
  refine ⟨funext fun i => ?_, k.2⟩
  by_cases hi : i < 24
  · exact k.1 i hi
  · have hu := (good_parts hg).2
    unfold keepF keepI clmF
    rw [if_pos hu, if_neg (by omega), hz i (by omega), boxF_hi (by omega)]
    decide
end Go.Proofs.Ytnnjcdbliaecgaa
