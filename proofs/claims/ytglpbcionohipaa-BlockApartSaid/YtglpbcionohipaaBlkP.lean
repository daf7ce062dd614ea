/- block's numbers: states begun anew are apart from all others, whatever the factors are. No program. -/
import Derived.Test.YtglpbcionohipaaStepG
namespace Go.Proofs.Ytglpbcionohipaa
theorem pl_inj2 {i j i' j' : Nat} (h : i < j) (h' : i' < j') (hj : j < 24) (hj' : j' < 24) (e : pl i j = pl i' j') : i = i' ∧ j = j' := by
  have key : ∀ j : Fin 24, ∀ j' : Fin 24, j.val < j'.val → j.val * (j.val - 1) / 2 + j.val ≤ j'.val * (j'.val - 1) / 2 := by decide
  unfold pl at e
  rcases Nat.lt_trichotomy j j' with h1 | h1 | h1
  · have := key ⟨j, hj⟩ ⟨j', hj'⟩ h1; simp only at this; omega
  · subst h1; omega
  · have := key ⟨j', hj'⟩ ⟨j, hj⟩ h1; simp only at this; omega
theorem mulV_0r (a : Int) : mulV a 0 30 = 0 := by
  unfold mulV
  rw [if_neg (by decide), satV_0, Int.mul_zero]
  decide
/-- The matrix that forgets the states R. -/
def rsF (R : Nat → Bool) : Nat → Int := fun x => if x / 24 = x % 24 ∧ R (x / 24) = false then 1073741824 else 0
theorem rsF_bd (R : Nat → Bool) (x : Nat) : satV (rsF R x) = rsF R x ∧ satH (rsF R x) = false := by
  unfold rsF; split
  · exact ⟨satV_one, satH_one⟩
  · exact ⟨satV_0, satH_0⟩
theorem fS_rs (R : Nat → Bool) (x : Nat) : fS (rsF R) 24 0 x = rsF R x := by
  unfold fS; split
  · exact (rsF_bd R x).1
  · rfl
theorem rsF_at {R : Nat → Bool} {i m : Nat} (hm : m < 24) : rsF R (i * 24 + m) = if i = m ∧ R i = false then 1073741824 else 0 := by
  unfold rsF
  rw [show (i * 24 + m) / 24 = i by omega, show (i * 24 + m) % 24 = m by omega]
/-- The rows of what is begun anew. -/
def ApW (R : Nat → Bool) (W : Nat → Int) : Prop :=
  ∀ k, k < 24 → R k = true → (∀ m, m < 48 → W (k * 48 + m) = if m = 24 + k then 1073741824 else 0) ∧ ∀ i, i < 24 → i ≠ k → W (i * 48 + (24 + k)) = 0
theorem stD_pos (W e : Nat → Int) (j : Nat) : satV (stD W e j) ≠ 0 := by
  have h : 1 ≤ stD W e j ∧ stD W e j ≤ 72057594037927936 := by unfold stD; exact varV_bd _
  rw [satV_id (by omega) (by omega)]; omega
theorem ap_u {R : Nat → Bool} {W e : Nat → Int} (h : ApW R W) {i j : Nat} (hi : i < 24) (hj : j < 24) (hne : i ≠ j) (hR : R i = true ∨ R j = true) : stU W e j i = 0 := by
  have hd : dotS (rowF 48 W i) (stY W e j) 48 = 0 := by
    refine dotS_no fun m hm => ?_
    rcases hR with hR | hR
    · obtain ⟨h1, h2⟩ := h i hi hR
      by_cases e1 : m = 24 + i
      · right; subst e1; unfold stY; rw [h2 j hj (fun e => hne e.symm), mulV_0]
      · left; simp only [rowF]; rw [h1 m hm, if_neg e1]
    · obtain ⟨h1, h2⟩ := h j hj hR
      by_cases e1 : m = 24 + j
      · left; subst e1; simp only [rowF]; exact h2 i hi hne
      · right; unfold stY; rw [h1 m hm, if_neg e1, mulV_0]
  unfold stU dotV
  rw [if_neg (by decide), hd, show (30 : Int).toNat = 30 from rfl, rsh_0, satV_0, divV_z (stD_pos W e j)]
theorem ap_D {R : Nat → Bool} {W e : Nat → Int} (h : ApW R W) {k : Nat} (hk : k < 24) (hR : R k = true) (he : 1 ≤ e (24 + k) ∧ e (24 + k) ≤ 72057594037927936) : stD W e k = e (24 + k) := by
  obtain ⟨h1, _⟩ := h k hk hR
  have hd : dotS (rowF 48 W k) (stY W e k) 48 = 1073741824 * e (24 + k) := by
    rw [dotS_1 (a := 24 + k) (by omega)]
    · simp only [rowF]
      unfold stY
      rw [h1 _ (by omega), if_pos rfl, mulV_one (by omega) (by omega), satV_one, satV_id (by omega) (by omega)]
    · intro m hm hne
      left; simp only [rowF]; rw [h1 m hm, if_neg hne]
  unfold stD dotV
  rw [if_neg (by decide), hd, show (30 : Int).toNat = 30 from rfl, rsh_mul, satV_id (by omega) (by omega)]
  exact (varV_id he.1 he.2).1
theorem elW_at {W e : Nat → Int} {j i m : Nat} (hm : m < 48) : elW W e j j 0 (i * 48 + m) = if i < j then subV (W (i * 48 + m)) (mulV (stU W e j i) (W (j * 48 + m)) 30) else W (i * 48 + m) := by
  unfold elW elV
  rw [show (i * 48 + m) / 48 = i by omega, show (i * 48 + m) % 48 = m by omega]
  by_cases h : i < j
  · rw [if_pos (.inl h), if_pos h]
  · rw [if_neg (by omega), if_neg h]
theorem ap_stage {R : Nat → Bool} {W e : Nat → Int} (h : ApW R W) {j : Nat} (hj : j < 24) : ApW R (elW W e j j 0) := by
  intro k hk hR
  obtain ⟨h1, h2⟩ := h k hk hR
  refine ⟨fun m hm => ?_, fun i hi hne => ?_⟩
  · rw [elW_at hm, h1 m hm]
    by_cases e1 : k < j
    · rw [if_pos e1, ap_u h hk hj (by omega) (.inl hR), mulV_0]
      split
      · exact subV_0 (by decide) (by decide)
      · exact subV_0 (by decide) (by decide)
    · rw [if_neg e1]
  · rw [elW_at (by omega), h2 i hi hne]
    by_cases e1 : i < j
    · rw [if_pos e1]
      have : mulV (stU W e j i) (W (j * 48 + (24 + k))) 30 = 0 := by
        by_cases e2 : j = k
        · subst e2; rw [ap_u h hi hj hne (.inr hR), mulV_0]
        · rw [h2 j hj e2, mulV_0r]
      rw [this]; exact subV_0 (by decide) (by decide)
    · rw [if_neg e1]
theorem outI_U (O W e : Nat → Int) {j : Nat} (hj : j < 24) : ∀ m, m ≤ j → ∀ i' j', i' < j' → j' < 24 → outI O W e j m (pl i' j') = if j' = j ∧ i' < m then stU W e j i' else O (pl i' j')
  | 0, _, i', j', h, h' => by
    simp only [outI, upd]
    rw [if_neg (by have := pl_lt h h'; omega), if_neg (by omega)]
  | m + 1, hm, i', j', h, h' => by
    simp only [outI, upd]
    by_cases e1 : pl i' j' = pl m j
    · obtain ⟨rfl, rfl⟩ := pl_inj2 h (by omega) h' hj e1
      rw [if_pos rfl, if_pos ⟨rfl, by omega⟩]
    · rw [if_neg e1, outI_U O W e hj m (by omega) i' j' h h']
      by_cases e2 : j' = j ∧ i' < m
      · rw [if_pos e2, if_pos ⟨e2.1, by omega⟩]
      · rw [if_neg e2, if_neg]
        intro ⟨e3, e4⟩
        subst e3
        have : i' = m := by omega
        subst this
        exact e1 rfl
theorem ap_all {R : Nat → Bool} {W e : Nat → Int} (h : ApW R W) (he : ∀ k, k < 24 → R k = true → 1 ≤ e (24 + k) ∧ e (24 + k) ≤ 72057594037927936) : ∀ n, n ≤ 24 →
    ApW R (WN W e n) ∧ (∀ j, 24 - n ≤ j → j < 24 → R j = true → ON W e n (276 + j) = e (24 + j)) ∧ (∀ i j, i < j → j < 24 → 24 - n ≤ j → (R i = true ∨ R j = true) → ON W e n (pl i j) = 0)
  | 0, _ => ⟨h, fun j h1 h2 => by omega, fun i j _ h1 h2 => by omega⟩
  | n + 1, hn => by
    obtain ⟨h1, h2, h3⟩ := ap_all h he n (by omega)
    have hj : 23 - n < 24 := by omega
    obtain ⟨_, g2, g3⟩ := outI_good (ON W e n) (WN W e n) e hj (23 - n) (Nat.le_refl _)
    refine ⟨ap_stage h1 hj, fun j e1 e2 hR => ?_, fun i j e1 e2 e3 hR => ?_⟩
    · simp only [ON]
      by_cases e3 : j = 23 - n
      · subst e3
        rw [g3]; exact ap_D h1 e2 hR (he _ e2 hR)
      · rw [g2 j e3]; exact h2 j (by omega) e2 hR
    · simp only [ON]
      rw [outI_U _ _ _ hj _ (Nat.le_refl _) i j e1 e2]
      by_cases e4 : j = 23 - n ∧ i < 23 - n
      · obtain ⟨rfl, _⟩ := e4
        rw [if_pos ⟨rfl, e1⟩]
        exact ap_u h1 (by omega) hj (by omega) hR
      · rw [if_neg e4]
        exact h3 i j e1 e2 (by omega) hR
/-- What is begun anew: just the variances that were given, and nothing in common with others. -/
theorem block_apart (f : Nat → Int) (R : Nat → Bool) (q : Nat → Int) (hq : ∀ k, k < 24 → R k = true → 1 ≤ q k ∧ q k ≤ 72057594037927936) :
    (∀ k, k < 24 → R k = true → stepF f (rsF R) q (276 + k) = q k) ∧ ∀ i j, i < j → j < 24 → (R i = true ∨ R j = true) → stepF f (rsF R) q (pl i j) = 0 := by
  have hW : ApW R (stepW f (rsF R)) := by
    intro k hk hR
    refine ⟨fun m hm => ?_, fun i hi hne => ?_⟩
    · unfold stepW rowsW
      rw [show (k * 48 + m) % 48 = m by omega, show (k * 48 + m) / 48 = k by omega]
      by_cases e1 : m < 24
      · rw [if_pos e1, if_neg (by omega)]
        unfold rwV dotV
        have hd : dotS (rowF 24 (fS (rsF R) 24 0) k) (colF (condF f) m) 24 = 0 := dotS_no fun m' hm' => by
          left; simp only [rowF]; rw [fS_rs, rsF_at hm', if_neg (by rw [hR]; simp)]
        rw [if_neg (by decide), hd, show (30 : Int).toNat = 30 from rfl, rsh_0, satV_0]
      · rw [if_neg e1]
    · unfold stepW rowsW
      rw [show (i * 48 + (24 + k)) % 48 = 24 + k by omega, show (i * 48 + (24 + k)) / 48 = i by omega, if_neg (by omega), if_neg (by omega)]
  have hE : ∀ k, k < 24 → R k = true → stepE f q (24 + k) = q k := by
    intro k hk hR
    have := hq k hk hR
    unfold stepE eS
    rw [if_neg (by omega), if_pos (by omega), show 24 + k - 24 = k by omega]
    exact (qV_id (by omega) (by omega)).1
  obtain ⟨_, h2, h3⟩ := ap_all (e := stepE f q) hW (fun k hk hR => by rw [hE k hk hR]; exact hq k hk hR) 24 (Nat.le_refl _)
  refine ⟨fun k hk hR => ?_, fun i j hij hj hR => ?_⟩
  · unfold stepF; rw [h2 k (by omega) hk hR]; exact hE k hk hR
  · unfold stepF; exact h3 i j hij hj (by omega) hR
end Go.Proofs.Ytglpbcionohipaa
