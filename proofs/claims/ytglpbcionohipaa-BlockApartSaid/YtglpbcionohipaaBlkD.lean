/- block's numbers (2): of factors whose rows hold nothing but in the states that are forgotten, the answer exactly, and no flag. No program. -/
import Derived.Test.YtglpbcionohipaaBlkP
namespace Go.Proofs.Ytglpbcionohipaa
/-- The rows that are orthogonal from the start. -/
def dgW (R : Nat → Bool) (x : Nat) : Int := if (x % 48 = x / 48 ∧ R (x / 48) = false) ∨ x % 48 = 24 + x / 48 then 1073741824 else 0
theorem dgW_bd (R : Nat → Bool) (x : Nat) : -1152921504606846976 ≤ dgW R x ∧ dgW R x ≤ 1152921504606846976 := by unfold dgW; split <;> omega
theorem dgW_at {R : Nat → Bool} {i k : Nat} (hk : k < 48) : dgW R (i * 48 + k) = if (k = i ∧ R i = false) ∨ k = 24 + i then 1073741824 else 0 := by
  unfold dgW
  rw [show (i * 48 + k) % 48 = k by omega, show (i * 48 + k) / 48 = i by omega]
/-- A state's own variance, or none if it is forgotten. -/
def dgE (R : Nat → Bool) (e : Nat → Int) (j : Nat) : Int := if R j = true then 0 else e j
section
variable {R : Nat → Bool} {W e : Nat → Int} (hW : ∀ x, x < 1152 → W x = dgW R x) (he : ∀ k, k < 48 → 0 ≤ e k ∧ e k ≤ 72057594037927936)
include hW he
theorem stY_dg {j k : Nat} (hj : j < 24) (hk : k < 48) : stY W e j k = if (k = j ∧ R j = false) ∨ k = 24 + j then e k else 0 := by
  unfold stY
  rw [hW _ (by omega), dgW_at hk]
  have := he k hk
  split
  · rw [mulV_one (by omega) (by omega)]
  · rw [mulV_0]
theorem dot_dg {i j : Nat} (hi : i < 24) (hj : j < 24) : dotS (rowF 48 W i) (stY W e j) 48 = if i = j then 1073741824 * (dgE R e j + e (24 + j)) else 0 := by
  by_cases hij : i = j
  · subst hij
    have h1 := he i (by omega)
    have h2 := he (24 + i) (by omega)
    rw [if_pos rfl]
    cases hR : R i with
    | false =>
      rw [dotS_2 (a := i) (b := 24 + i) (by omega) (by omega) (by omega)]
      · rw [stY_dg hW he hj (by omega), stY_dg hW he hj (by omega), if_pos (.inl ⟨rfl, hR⟩), if_pos (.inr rfl)]
        simp only [rowF, dgE]
        rw [hW _ (by omega), hW _ (by omega), dgW_at (by omega), dgW_at (by omega), if_pos (.inl ⟨rfl, hR⟩), if_pos (.inr rfl), satV_one, satV_id (by omega) (by omega), satV_id (by omega) (by omega), Int.mul_add, hR]
        simp
      · intro k hk h1 h2
        right
        rw [stY_dg hW he hj hk, if_neg (by omega)]
    | true =>
      rw [dotS_1 (a := 24 + i) (by omega)]
      · rw [stY_dg hW he hj (by omega), if_pos (.inr rfl)]
        simp only [rowF, dgE]
        rw [hW _ (by omega), dgW_at (by omega), if_pos (.inr rfl), satV_one, satV_id (by omega) (by omega), if_pos hR, Int.zero_add]
      · intro k hk h1
        right
        rw [stY_dg hW he hj hk, if_neg (by rw [hR]; simp; omega)]
  · rw [if_neg hij, dotS_no]
    intro k hk
    by_cases h : (k = j ∧ R j = false) ∨ k = 24 + j
    · left
      simp only [rowF]
      rw [hW _ (by omega), dgW_at hk, if_neg (by omega)]
    · right
      rw [stY_dg hW he hj hk, if_neg h]
theorem dotB_dg {i j : Nat} (hi : i < 24) (hj : j < 24) : dotB (rowF 48 W i) (stY W e j) 48 = false := by
  refine dotB_no fun k hk => ⟨?_, ?_⟩
  · simp only [rowF]
    rw [hW _ (by omega)]
    exact satH_no (dgW_bd R _).1 (dgW_bd R _).2
  · rw [stY_dg hW he hj hk]
    have := he k hk
    split
    · exact satH_no (by omega) (by omega)
    · exact satH_0
variable (hs : ∀ j, j < 24 → 1 ≤ dgE R e j + e (24 + j) ∧ dgE R e j + e (24 + j) ≤ 72057594037927936)
include hs
theorem stD_dg {j : Nat} (hj : j < 24) : stD W e j = dgE R e j + e (24 + j) ∧ dB W e j = false := by
  have := hs j hj
  have hd : dotV 30 (rowF 48 W j) (stY W e j) 48 = dgE R e j + e (24 + j) := by
    unfold dotV
    rw [if_neg (by decide), dot_dg hW he hj hj, if_pos rfl, show (30 : Int).toNat = 30 from rfl, rsh_mul, satV_id (by omega) (by omega)]
  constructor
  · unfold stD
    rw [hd]
    exact (varV_id this.1 this.2).1
  · unfold dB
    rw [hd]
    unfold dotH
    rw [if_neg (by decide), dotB_dg hW he hj hj, dot_dg hW he hj hj, if_pos rfl, show (30 : Int).toNat = 30 from rfl, rsh_mul, satH_no (by omega) (by omega), (varV_id this.1 this.2).2]
    rfl
theorem stU_dg {i j : Nat} (hi : i < j) (hj : j < 24) : stU W e j i = 0 ∧ uB W e j i = false := by
  have hd : dotV 30 (rowF 48 W i) (stY W e j) 48 = 0 := by
    unfold dotV
    rw [if_neg (by decide), dot_dg hW he (by omega) hj, if_neg (by omega), show (30 : Int).toNat = 30 from rfl, rsh_0, satV_0]
  have hD := (stD_dg hW he hs hj).1
  have := hs j hj
  constructor
  · unfold stU
    rw [hd, divV_z (stD_pos W e j)]
  · unfold uB
    rw [hd, hD]
    unfold dotH divH byH
    rw [if_neg (by decide), dotB_dg hW he (by omega) hj, dot_dg hW he (by omega) hj, if_neg (by omega), show (30 : Int).toNat = 30 from rfl, rsh_0, satV_0, satH_0, Int.zero_mul, satV_id (by omega) (by omega), satH_no (by omega) (by omega)]
    rw [rdiv_0 (by omega), satH_0]
    simp; omega
theorem stage_dg {j : Nat} (hj : j < 24) : (∀ x, x < 1152 → elW W e j j 0 x = dgW R x) ∧ stageH W e j = false := by
  constructor
  · intro x hx
    unfold elW
    split
    · unfold elV
      rw [(stU_dg hW he hs (by omega) hj).1, mulV_0, show x / 48 * 48 + x % 48 = x by omega, hW x hx, subV_0 (dgW_bd R x).1 (dgW_bd R x).2]
    · exact hW x hx
  · unfold stageH
    rw [(stD_dg hW he hs hj).2, orB_no, orB_no]; rfl
    · intro i hi
      unfold rowB
      rw [(stU_dg hW he hs hi hj).2, orB_no]; rfl
      intro k hk
      unfold elB
      rw [(stU_dg hW he hs hi hj).1, mulV_0, hW _ (by omega), hW _ (by omega), mulH_0 (dgW_bd R _).1 (dgW_bd R _).2, subH_0 (dgW_bd R _).1 (dgW_bd R _).2]; rfl
    · intro k hk
      unfold yB
      have := he k hk
      rw [hW _ (by omega), dgW_at hk]
      split
      · exact mulH_one (by omega) (by omega)
      · exact mulH_0 (by omega) (by omega)
theorem outI_dg (O : Nat → Int) {j : Nat} (hj : j < 24) : ∀ m, m ≤ j → ∀ x, x < 300 → outI O W e j m x = if x = 276 + j then dgE R e j + e (24 + j) else if j * (j - 1) / 2 ≤ x ∧ x < j * (j - 1) / 2 + m then 0 else O x
  | 0, _, x, hx => by
    simp only [outI, upd]
    rw [(stD_dg hW he hs hj).1]
    split
    · rfl
    · rw [if_neg (by omega)]
  | m + 1, hm, x, hx => by
    have ht := tri_le hj
    have hp : pl m j = j * (j - 1) / 2 + m := rfl
    simp only [outI, upd]
    rw [outI_dg O hj m (by omega) x hx, (stU_dg hW he hs (by omega) hj).1]
    by_cases h1 : x = pl m j
    · rw [if_pos h1, if_neg (by omega), if_pos (by omega)]
    · rw [if_neg h1]
      split
      · rfl
      · split <;> split <;> first | rfl | omega
end
theorem all_dg {R : Nat → Bool} {W e : Nat → Int} (hW : ∀ x, x < 1152 → W x = dgW R x) (he : ∀ k, k < 48 → 0 ≤ e k ∧ e k ≤ 72057594037927936)
    (hs : ∀ j, j < 24 → 1 ≤ dgE R e j + e (24 + j) ∧ dgE R e j + e (24 + j) ≤ 72057594037927936) : ∀ n, n ≤ 24 →
    (∀ x, x < 1152 → WN W e n x = dgW R x) ∧ HN W e n = false ∧ ∀ x, x < 300 → ON W e n x = if 300 - n ≤ x then dgE R e (x - 276) + e (24 + (x - 276)) else 0
  | 0, _ => ⟨hW, rfl, fun x hx => by rw [if_neg (by omega)]; rfl⟩
  | n + 1, hn => by
    obtain ⟨h1, h2, h3⟩ := all_dg hW he hs n (by omega)
    have ht := tri_le (j := 23 - n) (by omega)
    have hst := stage_dg h1 he hs (j := 23 - n) (by omega)
    refine ⟨hst.1, ?_, fun x hx => ?_⟩
    · simp only [HN]; rw [h2, hst.2]; rfl
    · simp only [ON]
      rw [outI_dg h1 he hs _ (by omega) _ (Nat.le_refl _) x hx, h3 x hx]
      by_cases hx1 : x = 276 + (23 - n)
      · rw [if_pos hx1, if_pos (by omega), hx1, show 276 + (23 - n) - 276 = 23 - n by omega]
      · rw [if_neg hx1]
        by_cases hx2 : 300 - n ≤ x
        · rw [if_pos hx2, if_neg (by omega), if_pos (by omega)]
        · have hx3 : ¬ 300 - (n + 1) ≤ x := by omega
          rw [if_neg hx2, if_neg hx3]
          split <;> rfl
/-- Factors that are good, with numbers above the diagonal in forgotten rows alone. -/
structure RsP (R : Nat → Bool) (f : Nat → Int) : Prop where
  u : ∀ i j, i < j → j < 24 → -1152921504606846976 ≤ f (pl i j) ∧ f (pl i j) ≤ 1152921504606846976
  z : ∀ i j, i < j → j < 24 → R i = false → f (pl i j) = 0
  d : ∀ i, i < 24 → 1 ≤ f (276 + i) ∧ f (276 + i) ≤ 72057594037927936
theorem rw_rs {R : Nat → Bool} {f : Nat → Int} (hu : ∀ i j, i < j → j < 24 → -1152921504606846976 ≤ f (pl i j) ∧ f (pl i j) ≤ 1152921504606846976) (hz : ∀ i j, i < j → j < 24 → R i = false → f (pl i j) = 0) {i k : Nat} (hi : i < 24) (hk : k < 24) :
    rwV f (fS (rsF R) 24 0) i k = (if i = k ∧ R i = false then 1073741824 else 0) ∧ rwB f (fS (rsF R) 24 0) i k = false := by
  have hc : ∀ m, m < 24 → -1152921504606846976 ≤ colF f k m ∧ colF f k m ≤ 1152921504606846976 := by
    intro m hm
    unfold colF uV
    split
    · split
      · omega
      · split
        · rename_i h; exact hu m k h hk
        · omega
    · omega
  have hd : dotS (rowF 24 (fS (rsF R) 24 0) i) (colF f k) 24 = if i = k ∧ R i = false then 1073741824 * 1073741824 else 0 := by
    cases hR : R i with
    | true =>
      rw [if_neg (by simp), dotS_no]
      intro m hm
      left; simp only [rowF]; rw [fS_rs, rsF_at hm, if_neg (by rw [hR]; simp)]
    | false =>
      have e0 : dotS (rowF 24 (fS (rsF R) 24 0) i) (colF f k) 24 = satV (rowF 24 (fS (rsF R) 24 0) i i) * satV (colF f k i) := by
        refine dotS_1 hi fun m hm hmi => ?_
        left; simp only [rowF]; rw [fS_rs, rsF_at hm, if_neg (by omega)]
      rw [e0]
      simp only [rowF]
      rw [fS_rs, rsF_at hi, if_pos ⟨rfl, hR⟩, satV_one]
      by_cases e1 : i = k
      · subst e1
        rw [if_pos (by simp)]
        unfold colF uV
        rw [if_pos (Nat.le_refl _), if_pos rfl, satV_one]
      · rw [if_neg (by simp [e1])]
        have : colF f k i = 0 := by
          unfold colF uV
          by_cases h : i < k
          · rw [if_pos (by omega), if_neg e1, if_pos h]; exact hz i k h hk hR
          · rw [if_neg (by omega)]
        rw [this, satV_0]; rfl
  have hb : dotB (rowF 24 (fS (rsF R) 24 0) i) (colF f k) 24 = false := by
    refine dotB_no fun m hm => ⟨?_, ?_⟩
    · simp only [rowF]; rw [fS_rs]; exact (rsF_bd R _).2
    · exact satH_no (hc m hm).1 (hc m hm).2
  unfold rwV rwB dotV dotH
  rw [if_neg (by decide : ¬ ((30 : Int) < 0 ∨ (120 : Int) < 30)), if_neg (by decide : ¬ ((30 : Int) < 0 ∨ (120 : Int) < 30)), hb, hd, show (30 : Int).toNat = 30 from rfl]
  by_cases e : i = k ∧ R i = false
  · rw [if_pos e, if_pos e, rsh_mul]; exact ⟨satV_one, by rw [satH_one]; rfl⟩
  · rw [if_neg e, if_neg e, rsh_0]; exact ⟨satV_0, by rw [satH_0]; rfl⟩
theorem pl_all {x : Nat} (hx : x < 276) : ∃ i j, i < j ∧ j < 24 ∧ x = pl i j := by
  have key : ∀ x : Fin 276, ∃ j : Fin 24, j.val * (j.val - 1) / 2 ≤ x.val ∧ x.val < j.val * (j.val - 1) / 2 + j.val := by decide +kernel
  obtain ⟨j, h1, h2⟩ := key ⟨x, hx⟩
  simp only at h1 h2
  exact ⟨x - j.val * (j.val - 1) / 2, j.val, by omega, j.isLt, by unfold pl; omega⟩
theorem cond_rs {R : Nat → Bool} {f : Nat → Int} (h : RsP R f) : (∀ x, x < 300 → condF f x = f x) ∧ condH f = false := by
  have hg : condH f = false := good_of (fun x hx => by obtain ⟨i, j, h1, h2, rfl⟩ := pl_all hx; exact h.u i j h1 h2) h.d
  exact ⟨cond_good hg, hg⟩
theorem step_reset {R : Nat → Bool} {f q : Nat → Int} (h : RsP R f) (hq : ∀ i, i < 24 → 0 ≤ q i ∧ q i ≤ 72057594037927936) (hr : ∀ i, i < 24 → 1 ≤ dgE R (fun i => f (276 + i)) i + q i ∧ dgE R (fun i => f (276 + i)) i + q i ≤ 72057594037927936) :
    (∀ x, x < 300 → stepF f (rsF R) q x = if x < 276 then 0 else dgE R (fun i => f (276 + i)) (x - 276) + q (x - 276)) ∧ stepH f (rsF R) q = false := by
  have hc := cond_rs h
  have hcu : ∀ i j, i < j → j < 24 → -1152921504606846976 ≤ condF f (pl i j) ∧ condF f (pl i j) ≤ 1152921504606846976 := fun i j h1 h2 => by rw [hc.1 _ (by have := pl_lt h1 h2; omega)]; exact h.u i j h1 h2
  have hcz : ∀ i j, i < j → j < 24 → R i = false → condF f (pl i j) = 0 := fun i j h1 h2 hR => by rw [hc.1 _ (by have := pl_lt h1 h2; omega)]; exact h.z i j h1 h2 hR
  have hW : ∀ x, x < 1152 → stepW f (rsF R) x = dgW R x := by
    intro x hx
    unfold stepW rowsW dgW
    split
    · rw [(rw_rs hcu hcz (by omega) (by omega)).1]
      by_cases e : x / 48 = x % 48 ∧ R (x / 48) = false
      · rw [if_pos e, if_pos (.inl ⟨e.1.symm, e.2⟩)]
      · rw [if_neg e, if_neg]
        intro h'
        rcases h' with h' | h'
        · exact e ⟨h'.1.symm, h'.2⟩
        · omega
    · split
      · rename_i h1 h2; rw [if_pos (.inr h2)]
      · rename_i h1 h2; rw [if_neg (by omega)]
  have hE : ∀ k, k < 48 → stepE f q k = if k < 24 then f (276 + k) else q (k - 24) := by
    intro k hk
    unfold stepE eS
    split
    · rw [hc.1 _ (by omega)]
    · rw [if_pos (by omega)]
      have h1 := hq (k - 24) (by omega)
      exact (qV_id (by omega) (by omega)).1
  have hG : ∀ j, j < 24 → dgE R (stepE f q) j + stepE f q (24 + j) = dgE R (fun i => f (276 + i)) j + q j := by
    intro j hj
    unfold dgE
    rw [hE j (by omega), hE (24 + j) (by omega)]
    simp only [if_pos hj, if_neg (show ¬ 24 + j < 24 by omega), show 24 + j - 24 = j by omega]
  have hA := all_dg (R := R) (W := stepW f (rsF R)) (e := stepE f q) hW (fun k hk => by
    rw [hE k hk]
    split
    · have := h.d k (by omega); omega
    · exact hq (k - 24) (by omega)) (fun j hj => by rw [hG j hj]; exact hr j hj) 24 (Nat.le_refl _)
  constructor
  · intro x hx
    unfold stepF
    rw [hA.2.2 x hx]
    by_cases e : x < 276
    · rw [if_neg (by omega), if_pos e]
    · rw [if_pos (by omega), if_neg e, hG _ (by omega)]
  · unfold stepH
    rw [hc.2, hA.2.1]
    have h1 : loop1H q (rsF R) 24 = false := by
      unfold loop1H
      refine orB_no fun i hi => ?_
      have h1 := hq i hi
      rw [(qV_id (a := q i) (by omega) (by omega)).2]
      unfold row1H
      rw [orB_no]; rfl
      intro k hk; exact (rsF_bd R _).2
    have h2 : rowsH (condF f) (fS (rsF R) 24 0) = false := by
      unfold rowsH rwH
      refine orB_no fun k hk => orB_no fun i hi => ?_
      exact (rw_rs hcu hcz hi hk).2
    rw [h1, h2]; rfl
end Go.Proofs.Ytglpbcionohipaa
