/- Contracts of the program's functions and plain laws, part 9: they hold for all arguments. -/
import Derived.Test.YtipkdkeacdmnaaaQ01
import Derived.WalkKit
import Derived.Test.YtipkdkeacdmnaaaQ08
import Derived.Test.YtipkdkeacdmnaaaQ07
import Derived.Test.YtipkdkeacdmnaaaQ05
import Derived.Laws.Tables
import Derived.Laws.AppendOwn
import Derived.Test.YtipkdkeacdmnaaaProg
import Derived.Deep.AppendLies
/- The numbers that the Close laws make of what is given; masks and remainders. No program beyond the numbers' names. -/
namespace Go.Proofs.Ytipkdkeacdmnaaa
open Go
theorem andM (u : Int) {M : Nat} (hM : M ≤ 9000000000000000000) : 0 ≤ Go.bits .and .i64 u (M : Int) ∧ Go.bits .and .i64 u (M : Int) ≤ (M : Int) := by
  obtain ⟨n, hn, e⟩ : ∃ n : Nat, n ≤ M ∧ Go.bits .and .i64 u (M : Int) = Go.IntKind.i64.wrap (n : Int) := by
    refine ⟨(BitVec.ofInt 64 u &&& BitVec.ofInt 64 (M : Int)).toNat, ?_, rfl⟩
    rw [BitVec.toNat_and]
    refine Nat.le_trans Nat.and_le_right ?_
    rw [BitVec.toNat_ofInt]
    omega
  rw [e, Go.IntWalk.i64_in _ (by omega)]
  omega
theorem and43 (u : Int) : 0 ≤ Go.bits .and .i64 u 8796093022207 ∧ Go.bits .and .i64 u 8796093022207 ≤ 8796093022207 := andM u (M := 8796093022207) (by decide)
theorem tmod_ab (x : Int) {m : Int} (hm : 0 < m) : ab (x.tmod m) ≤ m - 1 := by
  have h : (x.tmod m).natAbs = x.natAbs % m.natAbs := Int.natAbs_tmod x m
  have h2 := Nat.mod_lt x.natAbs (show 0 < m.natAbs by omega)
  unfold ab
  rw [h]; omega
/-- U within a quarter; D from 2^34 to 2^44; the noise likewise; the matrix near One. -/
def clU (p : Nat → Int) (k : Nat) : Nat → Int := fun x => if x < k then (p x).tmod 268435456 else p x
def clD (p : Nat → Int) (k : Nat) : Nat → Int := fun x => if x < 276 then (p x).tmod 268435456 else if x - 276 < k then 17179869184 + Go.bits .and .i64 (p x) 8796093022207 else p x
theorem clD_start (p : Nat → Int) : ∀ x, x < 300 → clU p 276 x = clD p 0 x := fun x _ => by
  unfold clU clD
  by_cases h : x < 276
  · rw [if_pos h, if_pos h]
  · rw [if_neg h, if_neg h, if_neg (by omega)]
theorem clU_next (p : Nat → Int) (k : Nat) : ∀ x, upd (clU p k) k ((clU p k k).tmod 268435456) x = clU p (k + 1) x := fun x => by
  unfold upd clU
  rw [if_neg (show ¬ k < k by omega)]
  by_cases h : x = k
  · subst h; rw [if_pos rfl, if_pos (by omega)]
  · rw [if_neg h]
    by_cases h2 : x < k
    · rw [if_pos h2, if_pos (by omega)]
    · rw [if_neg h2, if_neg (by omega)]
theorem clD_at (p : Nat → Int) (k : Nat) : clD p k (276 + k) = p (276 + k) := by unfold clD; rw [if_neg (by omega), if_neg (by omega)]
theorem clD_next (p : Nat → Int) (k : Nat) : ∀ x, upd (clD p k) (276 + k) (17179869184 + Go.bits .and .i64 (p (276 + k)) 8796093022207) x = clD p (k + 1) x := fun x => by
  unfold upd clD
  by_cases h : x = 276 + k
  · subst h; rw [if_pos rfl, if_neg (by omega), if_pos (by omega)]
  · rw [if_neg h]
    by_cases h1 : x < 276
    · rw [if_pos h1, if_pos h1]
    · rw [if_neg h1, if_neg h1]
      by_cases h2 : x - 276 < k
      · rw [if_pos h2, if_pos (by omega)]
      · rw [if_neg h2, if_neg (by omega)]
end Go.Proofs.Ytipkdkeacdmnaaa
/- The Close laws' numbers are within what the plain laws ask. No program beyond the numbers' names. -/
namespace Go.Proofs.Ytipkdkeacdmnaaa
theorem clD_hyp (p : Nat → Int) : (∀ x, x < 276 → ab (clD p 24 x) ≤ 268435455) ∧ ∀ i, i < 24 → 17179869184 ≤ clD p 24 (276 + i) ∧ clD p 24 (276 + i) ≤ 8813272891391 := by
  refine ⟨fun x hx => ?_, fun i hi => ?_⟩
  · unfold clD; rw [if_pos hx]; exact tmod_ab _ (by decide)
  · unfold clD
    rw [if_neg (by omega), if_pos (by omega)]
    have := and43 (p (276 + i))
    omega
end Go.Proofs.Ytipkdkeacdmnaaa
/- block's numbers: states begun anew are apart from all others, whatever the factors are. No program. -/
namespace Go.Proofs.Ytipkdkeacdmnaaa
theorem pl_inj2 {i j i' j' : Nat} (h : i < j) (h' : i' < j') (hj : j < 24) (hj' : j' < 24) (e : pl i j = pl i' j') : i = i' ∧ j = j' := by
  have key : ∀ j : Fin 24, ∀ j' : Fin 24, j.val < j'.val → j.val * (j.val - 1) / 2 + j.val ≤ j'.val * (j'.val - 1) / 2 := by decide
  unfold pl at e
  rcases Nat.lt_trichotomy j j' with h1 | h1 | h1
  · have := key ⟨j, hj⟩ ⟨j', hj'⟩ h1; simp only at this; omega
  · subst h1; omega
  · have := key ⟨j', hj'⟩ ⟨j, hj⟩ h1; simp only at this; omega
theorem mulV_0r (a : Int) : mulV a 0 30 = 0 := by
  unfold mulV
  rw [if_neg (by decide), satV_0, Int.mul_zero]
  decide
/-- The matrix that forgets the states R. -/
def rsF (R : Nat → Bool) : Nat → Int := fun x => if x / 24 = x % 24 ∧ R (x / 24) = false then 1073741824 else 0
theorem rsF_bd (R : Nat → Bool) (x : Nat) : satV (rsF R x) = rsF R x ∧ satH (rsF R x) = false := by
  unfold rsF; split
  · exact ⟨satV_one, satH_one⟩
  · exact ⟨satV_0, satH_0⟩
theorem fS_rs (R : Nat → Bool) (x : Nat) : fS (rsF R) 24 0 x = rsF R x := by
  unfold fS; split
  · exact (rsF_bd R x).1
  · rfl
theorem rsF_at {R : Nat → Bool} {i m : Nat} (hm : m < 24) : rsF R (i * 24 + m) = if i = m ∧ R i = false then 1073741824 else 0 := by
  unfold rsF
  rw [show (i * 24 + m) / 24 = i by omega, show (i * 24 + m) % 24 = m by omega]
/-- The rows of what is begun anew. -/
def ApW (R : Nat → Bool) (W : Nat → Int) : Prop :=
  ∀ k, k < 24 → R k = true → (∀ m, m < 48 → W (k * 48 + m) = if m = 24 + k then 1073741824 else 0) ∧ ∀ i, i < 24 → i ≠ k → W (i * 48 + (24 + k)) = 0
theorem stD_pos (W e : Nat → Int) (j : Nat) : satV (stD W e j) ≠ 0 := by
  have h : 1 ≤ stD W e j ∧ stD W e j ≤ 72057594037927936 := by unfold stD; exact varV_bd _
  rw [satV_id (by omega) (by omega)]; omega
theorem ap_u {R : Nat → Bool} {W e : Nat → Int} (h : ApW R W) {i j : Nat} (hi : i < 24) (hj : j < 24) (hne : i ≠ j) (hR : R i = true ∨ R j = true) : stU W e j i = 0 := by
  have hd : dotS (rowF 48 W i) (stY W e j) 48 = 0 := by
    refine dotS_no fun m hm => ?_
    rcases hR with hR | hR
    · obtain ⟨h1, h2⟩ := h i hi hR
      by_cases e1 : m = 24 + i
      · right; subst e1; unfold stY; rw [h2 j hj (fun e => hne e.symm), mulV_0]
      · left; simp only [rowF]; rw [h1 m hm, if_neg e1]
    · obtain ⟨h1, h2⟩ := h j hj hR
      by_cases e1 : m = 24 + j
      · left; subst e1; simp only [rowF]; exact h2 i hi hne
      · right; unfold stY; rw [h1 m hm, if_neg e1, mulV_0]
  unfold stU dotV
  rw [if_neg (by decide), hd, show (30 : Int).toNat = 30 from rfl, rsh_0, satV_0, divV_z (stD_pos W e j)]
theorem ap_D {R : Nat → Bool} {W e : Nat → Int} (h : ApW R W) {k : Nat} (hk : k < 24) (hR : R k = true) (he : 1 ≤ e (24 + k) ∧ e (24 + k) ≤ 72057594037927936) : stD W e k = e (24 + k) := by
  obtain ⟨h1, _⟩ := h k hk hR
  have hd : dotS (rowF 48 W k) (stY W e k) 48 = 1073741824 * e (24 + k) := by
    rw [dotS_1 (a := 24 + k) (by omega)]
    · simp only [rowF]
      unfold stY
      rw [h1 _ (by omega), if_pos rfl, mulV_one (by omega) (by omega), satV_one, satV_id (by omega) (by omega)]
    · intro m hm hne
      left; simp only [rowF]; rw [h1 m hm, if_neg hne]
  unfold stD dotV
  rw [if_neg (by decide), hd, show (30 : Int).toNat = 30 from rfl, rsh_mul, satV_id (by omega) (by omega)]
  exact (varV_id he.1 he.2).1
theorem elW_at {W e : Nat → Int} {j i m : Nat} (hm : m < 48) : elW W e j j 0 (i * 48 + m) = if i < j then subV (W (i * 48 + m)) (mulV (stU W e j i) (W (j * 48 + m)) 30) else W (i * 48 + m) := by
  unfold elW elV
  rw [show (i * 48 + m) / 48 = i by omega, show (i * 48 + m) % 48 = m by omega]
  by_cases h : i < j
  · rw [if_pos (.inl h), if_pos h]
  · rw [if_neg (by omega), if_neg h]
theorem ap_stage {R : Nat → Bool} {W e : Nat → Int} (h : ApW R W) {j : Nat} (hj : j < 24) : ApW R (elW W e j j 0) := by
  intro k hk hR
  obtain ⟨h1, h2⟩ := h k hk hR
  refine ⟨fun m hm => ?_, fun i hi hne => ?_⟩
  · rw [elW_at hm, h1 m hm]
    by_cases e1 : k < j
    · rw [if_pos e1, ap_u h hk hj (by omega) (.inl hR), mulV_0]
      split
      · exact subV_0 (by decide) (by decide)
      · exact subV_0 (by decide) (by decide)
    · rw [if_neg e1]
  · rw [elW_at (by omega), h2 i hi hne]
    by_cases e1 : i < j
    · rw [if_pos e1]
      have : mulV (stU W e j i) (W (j * 48 + (24 + k))) 30 = 0 := by
        by_cases e2 : j = k
        · subst e2; rw [ap_u h hi hj hne (.inr hR), mulV_0]
        · rw [h2 j hj e2, mulV_0r]
      rw [this]; exact subV_0 (by decide) (by decide)
    · rw [if_neg e1]
theorem outI_U (O W e : Nat → Int) {j : Nat} (hj : j < 24) : ∀ m, m ≤ j → ∀ i' j', i' < j' → j' < 24 → outI O W e j m (pl i' j') = if j' = j ∧ i' < m then stU W e j i' else O (pl i' j')
  | 0, _, i', j', h, h' => by
    simp only [outI, upd]
    rw [if_neg (by have := pl_lt h h'; omega), if_neg (by omega)]
  | m + 1, hm, i', j', h, h' => by
    simp only [outI, upd]
    by_cases e1 : pl i' j' = pl m j
    · obtain ⟨rfl, rfl⟩ := pl_inj2 h (by omega) h' hj e1
      rw [if_pos rfl, if_pos ⟨rfl, by omega⟩]
    · rw [if_neg e1, outI_U O W e hj m (by omega) i' j' h h']
      by_cases e2 : j' = j ∧ i' < m
      · rw [if_pos e2, if_pos ⟨e2.1, by omega⟩]
      · rw [if_neg e2, if_neg]
        intro ⟨e3, e4⟩
        subst e3
        have : i' = m := by omega
        subst this
        exact e1 rfl
theorem ap_all {R : Nat → Bool} {W e : Nat → Int} (h : ApW R W) (he : ∀ k, k < 24 → R k = true → 1 ≤ e (24 + k) ∧ e (24 + k) ≤ 72057594037927936) : ∀ n, n ≤ 24 →
    ApW R (WN W e n) ∧ (∀ j, 24 - n ≤ j → j < 24 → R j = true → ON W e n (276 + j) = e (24 + j)) ∧ (∀ i j, i < j → j < 24 → 24 - n ≤ j → (R i = true ∨ R j = true) → ON W e n (pl i j) = 0)
  | 0, _ => ⟨h, fun j h1 h2 => by omega, fun i j _ h1 h2 => by omega⟩
  | n + 1, hn => by
    obtain ⟨h1, h2, h3⟩ := ap_all h he n (by omega)
    have hj : 23 - n < 24 := by omega
    obtain ⟨_, g2, g3⟩ := outI_good (ON W e n) (WN W e n) e hj (23 - n) (Nat.le_refl _)
    refine ⟨ap_stage h1 hj, fun j e1 e2 hR => ?_, fun i j e1 e2 e3 hR => ?_⟩
    · simp only [ON]
      by_cases e3 : j = 23 - n
      · subst e3
        rw [g3]; exact ap_D h1 e2 hR (he _ e2 hR)
      · rw [g2 j e3]; exact h2 j (by omega) e2 hR
    · simp only [ON]
      rw [outI_U _ _ _ hj _ (Nat.le_refl _) i j e1 e2]
      by_cases e4 : j = 23 - n ∧ i < 23 - n
      · obtain ⟨rfl, _⟩ := e4
        rw [if_pos ⟨rfl, e1⟩]
        exact ap_u h1 (by omega) hj (by omega) hR
      · rw [if_neg e4]
        exact h3 i j e1 e2 (by omega) hR
/-- What is begun anew: just the variances that were given, and nothing in common with others. -/
theorem block_apart (f : Nat → Int) (R : Nat → Bool) (q : Nat → Int) (hq : ∀ k, k < 24 → R k = true → 1 ≤ q k ∧ q k ≤ 72057594037927936) :
    (∀ k, k < 24 → R k = true → stepF f (rsF R) q (276 + k) = q k) ∧ ∀ i j, i < j → j < 24 → (R i = true ∨ R j = true) → stepF f (rsF R) q (pl i j) = 0 := by
  have hW : ApW R (stepW f (rsF R)) := by
    intro k hk hR
    refine ⟨fun m hm => ?_, fun i hi hne => ?_⟩
    · unfold stepW rowsW
      rw [show (k * 48 + m) % 48 = m by omega, show (k * 48 + m) / 48 = k by omega]
      by_cases e1 : m < 24
      · rw [if_pos e1, if_neg (by omega)]
        unfold rwV dotV
        have hd : dotS (rowF 24 (fS (rsF R) 24 0) k) (colF (condF f) m) 24 = 0 := dotS_no fun m' hm' => by
          left; simp only [rowF]; rw [fS_rs, rsF_at hm', if_neg (by rw [hR]; simp)]
        rw [if_neg (by decide), hd, show (30 : Int).toNat = 30 from rfl, rsh_0, satV_0]
      · rw [if_neg e1]
    · unfold stepW rowsW
      rw [show (i * 48 + (24 + k)) % 48 = 24 + k by omega, show (i * 48 + (24 + k)) / 48 = i by omega, if_neg (by omega), if_neg (by omega)]
  have hE : ∀ k, k < 24 → R k = true → stepE f q (24 + k) = q k := by
    intro k hk hR
    have := hq k hk hR
    unfold stepE eS
    rw [if_neg (by omega), if_pos (by omega), show 24 + k - 24 = k by omega]
    exact (qV_id (by omega) (by omega)).1
  obtain ⟨_, h2, h3⟩ := ap_all (e := stepE f q) hW (fun k hk hR => by rw [hE k hk hR]; exact hq k hk hR) 24 (Nat.le_refl _)
  refine ⟨fun k hk hR => ?_, fun i j hij hj hR => ?_⟩
  · unfold stepF; rw [h2 k (by omega) hk hR]; exact hE k hk hR
  · unfold stepF; exact h3 i j hij hj (by omega) hR
end Go.Proofs.Ytipkdkeacdmnaaa
/- block's numbers (2): of factors whose rows hold nothing but in the states that are forgotten, the answer exactly, and no flag. No program. -/
namespace Go.Proofs.Ytipkdkeacdmnaaa
/-- The rows that are orthogonal from the start. -/
def dgW (R : Nat → Bool) (x : Nat) : Int := if (x % 48 = x / 48 ∧ R (x / 48) = false) ∨ x % 48 = 24 + x / 48 then 1073741824 else 0
theorem dgW_bd (R : Nat → Bool) (x : Nat) : -1152921504606846976 ≤ dgW R x ∧ dgW R x ≤ 1152921504606846976 := by unfold dgW; split <;> omega
theorem dgW_at {R : Nat → Bool} {i k : Nat} (hk : k < 48) : dgW R (i * 48 + k) = if (k = i ∧ R i = false) ∨ k = 24 + i then 1073741824 else 0 := by
  unfold dgW
  rw [show (i * 48 + k) % 48 = k by omega, show (i * 48 + k) / 48 = i by omega]
/-- A state's own variance, or none if it is forgotten. -/
def dgE (R : Nat → Bool) (e : Nat → Int) (j : Nat) : Int := if R j = true then 0 else e j
section
variable {R : Nat → Bool} {W e : Nat → Int} (hW : ∀ x, x < 1152 → W x = dgW R x) (he : ∀ k, k < 48 → 0 ≤ e k ∧ e k ≤ 72057594037927936)
include hW he
theorem stY_dg {j k : Nat} (hj : j < 24) (hk : k < 48) : stY W e j k = if (k = j ∧ R j = false) ∨ k = 24 + j then e k else 0 := by
  unfold stY
  rw [hW _ (by omega), dgW_at hk]
  have := he k hk
  split
  · rw [mulV_one (by omega) (by omega)]
  · rw [mulV_0]
theorem dot_dg {i j : Nat} (hi : i < 24) (hj : j < 24) : dotS (rowF 48 W i) (stY W e j) 48 = if i = j then 1073741824 * (dgE R e j + e (24 + j)) else 0 := by
  by_cases hij : i = j
  · subst hij
    have h1 := he i (by omega)
    have h2 := he (24 + i) (by omega)
    rw [if_pos rfl]
    cases hR : R i with
    | false =>
      rw [dotS_2 (a := i) (b := 24 + i) (by omega) (by omega) (by omega)]
      · rw [stY_dg hW he hj (by omega), stY_dg hW he hj (by omega), if_pos (.inl ⟨rfl, hR⟩), if_pos (.inr rfl)]
        simp only [rowF, dgE]
        rw [hW _ (by omega), hW _ (by omega), dgW_at (by omega), dgW_at (by omega), if_pos (.inl ⟨rfl, hR⟩), if_pos (.inr rfl), satV_one, satV_id (by omega) (by omega), satV_id (by omega) (by omega), Int.mul_add, hR]
        simp
      · intro k hk h1 h2
        right
        rw [stY_dg hW he hj hk, if_neg (by omega)]
    | true =>
      rw [dotS_1 (a := 24 + i) (by omega)]
      · rw [stY_dg hW he hj (by omega), if_pos (.inr rfl)]
        simp only [rowF, dgE]
        rw [hW _ (by omega), dgW_at (by omega), if_pos (.inr rfl), satV_one, satV_id (by omega) (by omega), if_pos hR, Int.zero_add]
      · intro k hk h1
        right
        rw [stY_dg hW he hj hk, if_neg (by rw [hR]; simp; omega)]
  · rw [if_neg hij, dotS_no]
    intro k hk
    by_cases h : (k = j ∧ R j = false) ∨ k = 24 + j
    · left
      simp only [rowF]
      rw [hW _ (by omega), dgW_at hk, if_neg (by omega)]
    · right
      rw [stY_dg hW he hj hk, if_neg h]
theorem dotB_dg {i j : Nat} (hi : i < 24) (hj : j < 24) : dotB (rowF 48 W i) (stY W e j) 48 = false := by
  refine dotB_no fun k hk => ⟨?_, ?_⟩
  · simp only [rowF]
    rw [hW _ (by omega)]
    exact satH_no (dgW_bd R _).1 (dgW_bd R _).2
  · rw [stY_dg hW he hj hk]
    have := he k hk
    split
    · exact satH_no (by omega) (by omega)
    · exact satH_0
variable (hs : ∀ j, j < 24 → 1 ≤ dgE R e j + e (24 + j) ∧ dgE R e j + e (24 + j) ≤ 72057594037927936)
include hs
theorem stD_dg {j : Nat} (hj : j < 24) : stD W e j = dgE R e j + e (24 + j) ∧ dB W e j = false := by
  have := hs j hj
  have hd : dotV 30 (rowF 48 W j) (stY W e j) 48 = dgE R e j + e (24 + j) := by
    unfold dotV
    rw [if_neg (by decide), dot_dg hW he hj hj, if_pos rfl, show (30 : Int).toNat = 30 from rfl, rsh_mul, satV_id (by omega) (by omega)]
  constructor
  · unfold stD
    rw [hd]
    exact (varV_id this.1 this.2).1
  · unfold dB
    rw [hd]
    unfold dotH
    rw [if_neg (by decide), dotB_dg hW he hj hj, dot_dg hW he hj hj, if_pos rfl, show (30 : Int).toNat = 30 from rfl, rsh_mul, satH_no (by omega) (by omega), (varV_id this.1 this.2).2]
    rfl
theorem stU_dg {i j : Nat} (hi : i < j) (hj : j < 24) : stU W e j i = 0 ∧ uB W e j i = false := by
  have hd : dotV 30 (rowF 48 W i) (stY W e j) 48 = 0 := by
    unfold dotV
    rw [if_neg (by decide), dot_dg hW he (by omega) hj, if_neg (by omega), show (30 : Int).toNat = 30 from rfl, rsh_0, satV_0]
  have hD := (stD_dg hW he hs hj).1
  have := hs j hj
  constructor
  · unfold stU
    rw [hd, divV_z (stD_pos W e j)]
  · unfold uB
    rw [hd, hD]
    unfold dotH divH byH
    rw [if_neg (by decide), dotB_dg hW he (by omega) hj, dot_dg hW he (by omega) hj, if_neg (by omega), show (30 : Int).toNat = 30 from rfl, rsh_0, satV_0, satH_0, Int.zero_mul, satV_id (by omega) (by omega), satH_no (by omega) (by omega)]
    rw [rdiv_0 (by omega), satH_0]
    simp; omega
theorem stage_dg {j : Nat} (hj : j < 24) : (∀ x, x < 1152 → elW W e j j 0 x = dgW R x) ∧ stageH W e j = false := by
  constructor
  · intro x hx
    unfold elW
    split
    · unfold elV
      rw [(stU_dg hW he hs (by omega) hj).1, mulV_0, show x / 48 * 48 + x % 48 = x by omega, hW x hx, subV_0 (dgW_bd R x).1 (dgW_bd R x).2]
    · exact hW x hx
  · unfold stageH
    rw [(stD_dg hW he hs hj).2, orB_no, orB_no]; rfl
    · intro i hi
      unfold rowB
      rw [(stU_dg hW he hs hi hj).2, orB_no]; rfl
      intro k hk
      unfold elB
      rw [(stU_dg hW he hs hi hj).1, mulV_0, hW _ (by omega), hW _ (by omega), mulH_0 (dgW_bd R _).1 (dgW_bd R _).2, subH_0 (dgW_bd R _).1 (dgW_bd R _).2]; rfl
    · intro k hk
      unfold yB
      have := he k hk
      rw [hW _ (by omega), dgW_at hk]
      split
      · exact mulH_one (by omega) (by omega)
      · exact mulH_0 (by omega) (by omega)
theorem outI_dg (O : Nat → Int) {j : Nat} (hj : j < 24) : ∀ m, m ≤ j → ∀ x, x < 300 → outI O W e j m x = if x = 276 + j then dgE R e j + e (24 + j) else if j * (j - 1) / 2 ≤ x ∧ x < j * (j - 1) / 2 + m then 0 else O x
  | 0, _, x, hx => by
    simp only [outI, upd]
    rw [(stD_dg hW he hs hj).1]
    split
    · rfl
    · rw [if_neg (by omega)]
  | m + 1, hm, x, hx => by
    have ht := tri_le hj
    have hp : pl m j = j * (j - 1) / 2 + m := rfl
    simp only [outI, upd]
    rw [outI_dg O hj m (by omega) x hx, (stU_dg hW he hs (by omega) hj).1]
    by_cases h1 : x = pl m j
    · rw [if_pos h1, if_neg (by omega), if_pos (by omega)]
    · rw [if_neg h1]
      split
      · rfl
      · split <;> split <;> first | rfl | omega
end
theorem all_dg {R : Nat → Bool} {W e : Nat → Int} (hW : ∀ x, x < 1152 → W x = dgW R x) (he : ∀ k, k < 48 → 0 ≤ e k ∧ e k ≤ 72057594037927936)
    (hs : ∀ j, j < 24 → 1 ≤ dgE R e j + e (24 + j) ∧ dgE R e j + e (24 + j) ≤ 72057594037927936) : ∀ n, n ≤ 24 →
    (∀ x, x < 1152 → WN W e n x = dgW R x) ∧ HN W e n = false ∧ ∀ x, x < 300 → ON W e n x = if 300 - n ≤ x then dgE R e (x - 276) + e (24 + (x - 276)) else 0
  | 0, _ => ⟨hW, rfl, fun x hx => by rw [if_neg (by omega)]; rfl⟩
  | n + 1, hn => by
    obtain ⟨h1, h2, h3⟩ := all_dg hW he hs n (by omega)
    have ht := tri_le (j := 23 - n) (by omega)
    have hst := stage_dg h1 he hs (j := 23 - n) (by omega)
    refine ⟨hst.1, ?_, fun x hx => ?_⟩
    · simp only [HN]; rw [h2, hst.2]; rfl
    · simp only [ON]
      rw [outI_dg h1 he hs _ (by omega) _ (Nat.le_refl _) x hx, h3 x hx]
      by_cases hx1 : x = 276 + (23 - n)
      · rw [if_pos hx1, if_pos (by omega), hx1, show 276 + (23 - n) - 276 = 23 - n by omega]
      · rw [if_neg hx1]
        by_cases hx2 : 300 - n ≤ x
        · rw [if_pos hx2, if_neg (by omega), if_pos (by omega)]
        · have hx3 : ¬ 300 - (n + 1) ≤ x := by omega
          rw [if_neg hx2, if_neg hx3]
          split <;> rfl
/-- Factors that are good, with numbers above the diagonal in forgotten rows alone. -/
structure RsP (R : Nat → Bool) (f : Nat → Int) : Prop where
  u : ∀ i j, i < j → j < 24 → -1152921504606846976 ≤ f (pl i j) ∧ f (pl i j) ≤ 1152921504606846976
  z : ∀ i j, i < j → j < 24 → R i = false → f (pl i j) = 0
  d : ∀ i, i < 24 → 1 ≤ f (276 + i) ∧ f (276 + i) ≤ 72057594037927936
theorem rw_rs {R : Nat → Bool} {f : Nat → Int} (hu : ∀ i j, i < j → j < 24 → -1152921504606846976 ≤ f (pl i j) ∧ f (pl i j) ≤ 1152921504606846976) (hz : ∀ i j, i < j → j < 24 → R i = false → f (pl i j) = 0) {i k : Nat} (hi : i < 24) (hk : k < 24) :
    rwV f (fS (rsF R) 24 0) i k = (if i = k ∧ R i = false then 1073741824 else 0) ∧ rwB f (fS (rsF R) 24 0) i k = false := by
  have hc : ∀ m, m < 24 → -1152921504606846976 ≤ colF f k m ∧ colF f k m ≤ 1152921504606846976 := by
    intro m hm
    unfold colF uV
    split
    · split
      · omega
      · split
        · rename_i h; exact hu m k h hk
        · omega
    · omega
  have hd : dotS (rowF 24 (fS (rsF R) 24 0) i) (colF f k) 24 = if i = k ∧ R i = false then 1073741824 * 1073741824 else 0 := by
    cases hR : R i with
    | true =>
      rw [if_neg (by simp), dotS_no]
      intro m hm
      left; simp only [rowF]; rw [fS_rs, rsF_at hm, if_neg (by rw [hR]; simp)]
    | false =>
      have e0 : dotS (rowF 24 (fS (rsF R) 24 0) i) (colF f k) 24 = satV (rowF 24 (fS (rsF R) 24 0) i i) * satV (colF f k i) := by
        refine dotS_1 hi fun m hm hmi => ?_
        left; simp only [rowF]; rw [fS_rs, rsF_at hm, if_neg (by omega)]
      rw [e0]
      simp only [rowF]
      rw [fS_rs, rsF_at hi, if_pos ⟨rfl, hR⟩, satV_one]
      by_cases e1 : i = k
      · subst e1
        rw [if_pos (by simp)]
        unfold colF uV
        rw [if_pos (Nat.le_refl _), if_pos rfl, satV_one]
      · rw [if_neg (by simp [e1])]
        have : colF f k i = 0 := by
          unfold colF uV
          by_cases h : i < k
          · rw [if_pos (by omega), if_neg e1, if_pos h]; exact hz i k h hk hR
          · rw [if_neg (by omega)]
        rw [this, satV_0]; rfl
  have hb : dotB (rowF 24 (fS (rsF R) 24 0) i) (colF f k) 24 = false := by
    refine dotB_no fun m hm => ⟨?_, ?_⟩
    · simp only [rowF]; rw [fS_rs]; exact (rsF_bd R _).2
    · exact satH_no (hc m hm).1 (hc m hm).2
  unfold rwV rwB dotV dotH
  rw [if_neg (by decide : ¬ ((30 : Int) < 0 ∨ (120 : Int) < 30)), if_neg (by decide : ¬ ((30 : Int) < 0 ∨ (120 : Int) < 30)), hb, hd, show (30 : Int).toNat = 30 from rfl]
  by_cases e : i = k ∧ R i = false
  · rw [if_pos e, if_pos e, rsh_mul]; exact ⟨satV_one, by rw [satH_one]; rfl⟩
  · rw [if_neg e, if_neg e, rsh_0]; exact ⟨satV_0, by rw [satH_0]; rfl⟩
theorem pl_all {x : Nat} (hx : x < 276) : ∃ i j, i < j ∧ j < 24 ∧ x = pl i j := by
  have key : ∀ x : Fin 276, ∃ j : Fin 24, j.val * (j.val - 1) / 2 ≤ x.val ∧ x.val < j.val * (j.val - 1) / 2 + j.val := by decide +kernel
  obtain ⟨j, h1, h2⟩ := key ⟨x, hx⟩
  simp only at h1 h2
  exact ⟨x - j.val * (j.val - 1) / 2, j.val, by omega, j.isLt, by unfold pl; omega⟩
theorem cond_rs {R : Nat → Bool} {f : Nat → Int} (h : RsP R f) : (∀ x, x < 300 → condF f x = f x) ∧ condH f = false := by
  have hg : condH f = false := good_of (fun x hx => by obtain ⟨i, j, h1, h2, rfl⟩ := pl_all hx; exact h.u i j h1 h2) h.d
  exact ⟨cond_good hg, hg⟩
theorem step_reset {R : Nat → Bool} {f q : Nat → Int} (h : RsP R f) (hq : ∀ i, i < 24 → 0 ≤ q i ∧ q i ≤ 72057594037927936) (hr : ∀ i, i < 24 → 1 ≤ dgE R (fun i => f (276 + i)) i + q i ∧ dgE R (fun i => f (276 + i)) i + q i ≤ 72057594037927936) :
    (∀ x, x < 300 → stepF f (rsF R) q x = if x < 276 then 0 else dgE R (fun i => f (276 + i)) (x - 276) + q (x - 276)) ∧ stepH f (rsF R) q = false := by
  have hc := cond_rs h
  have hcu : ∀ i j, i < j → j < 24 → -1152921504606846976 ≤ condF f (pl i j) ∧ condF f (pl i j) ≤ 1152921504606846976 := fun i j h1 h2 => by rw [hc.1 _ (by have := pl_lt h1 h2; omega)]; exact h.u i j h1 h2
  have hcz : ∀ i j, i < j → j < 24 → R i = false → condF f (pl i j) = 0 := fun i j h1 h2 hR => by rw [hc.1 _ (by have := pl_lt h1 h2; omega)]; exact h.z i j h1 h2 hR
  have hW : ∀ x, x < 1152 → stepW f (rsF R) x = dgW R x := by
    intro x hx
    unfold stepW rowsW dgW
    split
    · rw [(rw_rs hcu hcz (by omega) (by omega)).1]
      by_cases e : x / 48 = x % 48 ∧ R (x / 48) = false
      · rw [if_pos e, if_pos (.inl ⟨e.1.symm, e.2⟩)]
      · rw [if_neg e, if_neg]
        intro h'
        rcases h' with h' | h'
        · exact e ⟨h'.1.symm, h'.2⟩
        · omega
    · split
      · rename_i h1 h2; rw [if_pos (.inr h2)]
      · rename_i h1 h2; rw [if_neg (by omega)]
  have hE : ∀ k, k < 48 → stepE f q k = if k < 24 then f (276 + k) else q (k - 24) := by
    intro k hk
    unfold stepE eS
    split
    · rw [hc.1 _ (by omega)]
    · rw [if_pos (by omega)]
      have h1 := hq (k - 24) (by omega)
      exact (qV_id (by omega) (by omega)).1
  have hG : ∀ j, j < 24 → dgE R (stepE f q) j + stepE f q (24 + j) = dgE R (fun i => f (276 + i)) j + q j := by
    intro j hj
    unfold dgE
    rw [hE j (by omega), hE (24 + j) (by omega)]
    simp only [if_pos hj, if_neg (show ¬ 24 + j < 24 by omega), show 24 + j - 24 = j by omega]
  have hA := all_dg (R := R) (W := stepW f (rsF R)) (e := stepE f q) hW (fun k hk => by
    rw [hE k hk]
    split
    · have := h.d k (by omega); omega
    · exact hq (k - 24) (by omega)) (fun j hj => by rw [hG j hj]; exact hr j hj) 24 (Nat.le_refl _)
  constructor
  · intro x hx
    unfold stepF
    rw [hA.2.2 x hx]
    by_cases e : x < 276
    · rw [if_neg (by omega), if_pos e]
    · rw [if_pos (by omega), if_neg e, hG _ (by omega)]
  · unfold stepH
    rw [hc.2, hA.2.1]
    have h1 : loop1H q (rsF R) 24 = false := by
      unfold loop1H
      refine orB_no fun i hi => ?_
      have h1 := hq i hi
      rw [(qV_id (a := q i) (by omega) (by omega)).2]
      unfold row1H
      rw [orB_no]; rfl
      intro k hk; exact (rsF_bd R _).2
    have h2 : rowsH (condF f) (fS (rsF R) 24 0) = false := by
      unfold rowsH rwH
      refine orB_no fun k hk => orB_no fun i hi => ?_
      exact (rw_rs hcu hcz hi hk).2
    rw [h1, h2]; rfl
end Go.Proofs.Ytipkdkeacdmnaaa
/- What a law's walk carries: its own blocks (numbers, flags), and that all that was there is left. -/
namespace Go.Proofs.Ytipkdkeacdmnaaa
open Go.RowKit
/-- Block b holds one flag. -/
def Flg (w : World) (b : Nat) (h : Bool) : Prop := w.heap[b]? = some (.cells #[.bool h] 32 (0, 0))
theorem Flg.cell {w : World} {b : Nat} {h : Bool} (f : Flg w b h) : w.cell? ⟨b, 0, none⟩ = some (.bool h) := by
  rw [cell_of_row w b 0 _ _ _ f]; rfl
theorem Flg.free {w : World} {b : Nat} {h : Bool} (f : Flg w b h) : w.frozen? ⟨b, 0, none⟩ = false := frozen_of_row w b 0 _ _ f
theorem Flg.lt {w : World} {b : Nat} {h : Bool} (f : Flg w b h) : b < w.heap.size := by
  rcases Nat.lt_or_ge b w.heap.size with h' | h'
  · exact h'
  · unfold Flg at f; rw [Array.getElem?_eq_none h'] at f; cases f
theorem Flg.below {w w' : World} {b : Nat} {h : Bool} (f : Flg w b h) (hb : Below w.heap.size w w') : Flg w' b h := (hb.block b f.lt).trans f
theorem Flg.alloc {w : World} {b : Nat} {h : Bool} (f : Flg w b h) (o : Obj) : Flg (w.alloc o) b h := f.below ((Below.refl w.heap.size w).alloc (Nat.le_refl _) o)
theorem Flg.other {w : World} {b : Nat} {h : Bool} (f : Flg w b h) {a : Addr} (ha : b ≠ a.block) (v : Value) : Flg (w.setCell a v) b h := (heap_setCell_other w a b v ha).trans f
theorem Flg.row {w : World} {b k : Nat} {h : Bool} (f : Flg w b h) (cs : Array Value) (hk : b ≠ k) : Flg (w.setRow k cs) b h := (Go.setRow_other w k b cs hk).trans f
theorem Flg.new (w : World) (h : Bool) : Flg (w.alloc (.cells #[.bool h] 32)) w.heap.size h := heap_alloc_new w _
theorem Flg.upd {w w' : World} {b : Nat} {h : Bool} (f : Flg w b h) {c : Addr} {v : Bool} (u : Upd c v w w') (hn : b ≠ c.block) : Flg w' b h := (u.block f.lt hn).trans f
/-- Its own flag, raised or not. -/
theorem Flg.hit {w w' : World} {b : Nat} {h h' : Bool} (f : Flg w b h) (u : Upd ⟨b, 0, none⟩ h' w w') : Flg w' b h' := by
  have e : (w.setCell ⟨b, 0, none⟩ (.bool h')).heap[b]? = some (.cells #[.bool h'] 32 (0, 0)) := heap_setCell_same w b 0 _ _ (.bool h') f
  have hl : b < w.heap.size := f.lt
  exact (Below.block u b hl).trans e
theorem Flg.ne {w : World} {b b' : Nat} {h : Bool} {T n : Nat} {f' : Nat → Int} (f : Flg w b h) (k : Blk w b' T n f') : b' ≠ b := k.flag f.cell
/-- Where the flag's cell is new, all that was there is left. -/
theorem own_upd {c : Addr} {h : Bool} {w w1 w2 : World} (b : Below w.heap.size w w1) (hc : w.heap.size ≤ c.block) (u : Upd c h w1 w2) : Below w.heap.size w w2 :=
  b.trans (((Below.refl w.heap.size w1).setCell hc _).trans (Below.mono u b.size))
/-- A block made and filled. -/
theorem Blk.made {w w1 : World} {T n : Nat} {z : Array Value} (hz : z = arrv n (fun _ => 0)) (g : Nat → Int) (e : w1 = (w.alloc (.cells z T)).setRow w.heap.size (arrv n g)) : Blk w1 w.heap.size T n g ∧ Below w.heap.size w w1 := by
  subst e hz
  exact ⟨(Blk.new w T n _).setRow g, below_row ((Below.refl _ _).alloc (Nat.le_refl _) _) (Nat.le_refl _) _⟩
open Go in
/-- An operation of a plain region, by its value. -/
theorem wpList_val {P : Program} {ops : Array Oper} {Q : Exit → Act → World → Prop} {a : Act} {w : World} {rest : List Oper} {o : Oper} {v : Value}
    (hw : Region.wanted o (yielded ops a.tmps) = true) (hy : (execOp a.eval o).run P w = .ok (.value v) w) (h : wpList P ops Q rest (a.put o.dst v) w) : wpList P ops Q (o :: rest) a w :=
  wpList_step fun K hK => by
    rw [if_pos hw]
    unfold Oper.wp
    rw [hy]
    exact hK _ _ h
open Go in
/-- .. that is not wanted. -/
theorem wpList_skip {P : Program} {ops : Array Oper} {Q : Exit → Act → World → Prop} {a : Act} {w : World} {rest : List Oper} {o : Oper}
    (hw : Region.wanted o (yielded ops a.tmps) = false) (h : wpList P ops Q rest (a.put o.dst undef) w) : wpList P ops Q (o :: rest) a w :=
  wpList_step fun K hK => by
    rw [if_neg (by rw [hw]; decide)]
    exact hK _ _ h
open Go in
/-- .. by its value and its world. -/
theorem wpList_act {P : Program} {ops : Array Oper} {Q : Exit → Act → World → Prop} {a : Act} {w w' : World} {rest : List Oper} {o : Oper} {v : Value}
    (hw : Region.wanted o (yielded ops a.tmps) = true) (hy : (execOp a.eval o).run P w = .ok (.value v) w') (h : wpList P ops Q rest (a.put o.dst v) w') : wpList P ops Q (o :: rest) a w :=
  wpList_step fun K hK => by
    rw [if_pos hw]
    unfold Oper.wp
    rw [hy]
    exact hK _ _ h
open Go in
/-- .. by its world. -/
theorem wpList_done {P : Program} {ops : Array Oper} {Q : Exit → Act → World → Prop} {a : Act} {w w' : World} {rest : List Oper} {o : Oper}
    (hw : Region.wanted o (yielded ops a.tmps) = true) (hy : (execOp a.eval o).run P w = .ok .skip w') (h : wpList P ops Q rest (a.put o.dst undef) w') : wpList P ops Q (o :: rest) a w :=
  wpList_step fun K hK => by
    rw [if_pos hw]
    unfold Oper.wp
    rw [hy]
    exact hK _ _ h
open Go in
theorem run_store_row {P : Program} {ev : Operand → Value} {o : Oper} {w : World} (ty : TypeId) (x y : Operand) (ho : o.op = .store ty x y)
    (g : Nat) (hx : ev x = .pointer (some ⟨g, 0, none⟩)) {T n : Nat} {F f : Nat → Int} (hy : ev y = .agg (arrv n F)) (hg : Blk w g T n f) (hi : (P.info? ty).map (·.size) = some n) :
    (execOp ev o).run P w = .ok .skip (w.setRow g (arrv n F)) := by
  unfold execOp
  simp only [ho, hx, hy, Instr.storeAt, Instr.sureAddr, Sem.run_bind, Sem.run_pure, Result.andThen_ok, run_storeVar_row (P := P) w g T ty (arrv n f) (arrv n F) hg (hi.trans (by rw [arrv_size])) (by rw [arrv_size, arrv_size]) (oneCell_arrv n F)]
end Go.Proofs.Ytipkdkeacdmnaaa
/- Contracts of package block: is, variance, Reset. -/
namespace Go.Proofs.Ytipkdkeacdmnaaa
open Go.RowKit
set_option maxRecDepth 100000
theorem is_any (i : Int) (w : World) : Calls Try.prog 33 #[.int .i64 i] w fun e w' => e = .returned (.bool (decide (0 ≤ i ∧ i < 24))) ∧ w = w' := by
  by_cases h1 : 0 ≤ i
  · by_cases h2 : i < 24
    · rw [show decide (0 ≤ i ∧ i < 24) = true from by simp; omega]
      go_enter Try.func33, Try.ntmps33
      go_wp2_with fail
      go_ret
      exact ⟨rfl, rfl⟩
    · rw [show decide (0 ≤ i ∧ i < 24) = false from by simp; omega]
      go_enter Try.func33, Try.ntmps33
      go_wp2_with fail
      go_ret
      exact ⟨rfl, rfl⟩
  · rw [show decide (0 ≤ i ∧ i < 24) = false from by simp; omega]
    go_enter Try.func33, Try.ntmps33
    go_wp2_with fail
    go_ret
    exact ⟨rfl, rfl⟩
theorem bvar_any (c : Addr) (h : Bool) (a : Int) (w : World) (hc : w.cell? c = some (.bool h)) (hf : w.frozen? c = false) :
    Calls Try.prog 34 #[.pointer (some c), .int .i64 a] w fun e w' => e = .returned (.int .i64 (varV a)) ∧ w.setCell c (.bool (h || varH a)) = w' := by
  go_enter Try.func34, Try.ntmps34
  go_wp2_with (go_at_call 22; refine (clamp_any c h a _ _ _ hc hf).mono ?_; rintro e w' ⟨rfl, rfl⟩)
  go_ret
  exact ⟨rfl, rfl⟩
/-- Is the k-th state of a run that begins at 'from' one? -/
def rtI (fr : Int) (k : Nat) : Bool := decide (0 ≤ fr + k ∧ fr + k < 24)
def rtF (fr : Int) : Nat → Nat → Int | 0 => oneF | k + 1 => if rtI fr k = true then upd (rtF fr k) ((fr + k).toNat * 24 + (fr + k).toNat) 0 else rtF fr k
def rtQ (fr : Int) (L : Nat → Int) : Nat → Nat → Int | 0 => fun _ => 0 | k + 1 => if rtI fr k = true then upd (rtQ fr L k) (fr + k).toNat (varV (L k)) else rtQ fr L k
def rtB (fr : Int) (L : Nat → Int) (k : Nat) : Bool := if rtI fr k = true then varH (L k) else false
def gwQ (fr : Int) (L : Nat → Int) : Nat → Nat → Int | 0 => fun _ => 0 | k + 1 => if rtI fr k = true then upd (gwQ fr L k) (fr + k).toNat (L k) else gwQ fr L k
structure RtR (c : Addr) (h : Bool) (bf bq : Nat) (f F Q : Nat → Int) (w wr : World) : Prop where
  upd : Upd c h w wr
  pB : Blk wr w.heap.size 25 300 f
  r0 : Blk wr (w.heap.size + 1) 25 300 (fun _ => 0)
  fB : Blk wr bf 27 576 F
  qB : Blk wr bq 23 24 Q
theorem RtR.upd' {c : Addr} {h h' : Bool} {bf bq : Nat} {f F Q : Nat → Int} {w wr w' : World} (s : RtR c h bf bq f F Q w wr) (hc : c.block < w.heap.size) (h1 : w.heap.size + 1 < bf) (h2 : bf < bq) (u : Upd c h' wr w') : RtR c h' bf bq f F Q w w' :=
  ⟨s.upd.trans u, s.pB.upd u (by omega), s.r0.upd u (by omega), s.fB.upd u (by omega), s.qB.upd u (by omega)⟩
theorem RtR.setFQ {c : Addr} {h : Bool} {bf bq : Nat} {f F Q : Nat → Int} {w wr : World} (s : RtR c h bf bq f F Q w wr) (h1 : w.heap.size + 1 < bf) (h2 : bf < bq) (i j : Nat) (x y : Int) :
    RtR c h bf bq f (Go.Proofs.Ytipkdkeacdmnaaa.upd F i x) (Go.Proofs.Ytipkdkeacdmnaaa.upd Q j y) w ((wr.setCell ⟨bf, i, none⟩ (.int .i64 x)).setCell ⟨bq, j, none⟩ (.int .i64 y)) :=
  ⟨(s.upd.setCell (by simp; omega) _).setCell (by simp; omega) _, (s.pB.other (by simp; omega) _).other (by simp; omega) _, (s.r0.other (by simp; omega) _).other (by simp; omega) _, (s.fB.set _ _).other (by simp; omega) _, (s.qB.other (by simp; omega) _).set _ _⟩
set_option maxHeartbeats 4000000 in
theorem reset_any (c : Addr) (h : Bool) (f : Nat → Int) (fr : Int) (p : Option Addr) (n cp : Nat) (L : Nat → Int) (w : World) (hc : w.cell? c = some (.bool h)) (hf : w.frozen? c = false) (hL : Slc w p n L) (hfr : -1000000 ≤ fr ∧ fr ≤ 1000000) (hn : n ≤ 1000000) :
    Calls Try.prog 16 #[.pointer (some c), .agg (arrv 300 f), .int .i64 fr, .slice p n cp] w fun e w' =>
      e = .returned (.agg (arrv 300 (stepF f (rtF fr n) (rtQ fr L n)))) ∧ Upd c (h || orB (rtB fr L) n || stepH f (rtF fr n) (rtQ fr L n)) w w' := by
  have hcb := World.block_lt_of_cell? w c hc
  have HC := Lib.hid hc
  have HF := Lib.hid hf
  have HL := Lib.hid hL
  clear hc hf hL
  go_enter Try.func16, Try.ntmps16
  obtain ⟨W0, hW0⟩ : ∃ x, (w.alloc (.cells (arrv 300 f) 25)).alloc (.cells Try.zeroCells25 25) = x := ⟨_, rfl⟩
  have P0 : Blk W0 w.heap.size 25 300 f := by rw [← hW0]; exact (Blk.new w _ _ _).alloc _
  have Z0 : Blk W0 (w.heap.size + 1) 25 300 (fun _ => 0) := by rw [← hW0, zcov]; exact Blk.new1 w _ _ _ _
  have U0 : Upd c h w W0 := by rw [← hW0]; exact Upd.then (Upd.refl HC.out) (by (repeat (first | with_reducible exact Below.refl _ _ | with_reducible apply Below.drew | (with_reducible refine below_drewN ?_ _) | (with_reducible refine Below.alloc ?_ (by (try simp) <;> omega) _) | (with_reducible refine Below.setCell ?_ (by (try simp) <;> omega) _))))
  have hz0 := Z0.lt
  go_upto_region 1 with fail
  (try rw [hW0])
  go_upto_region 2 with (first | (go_at_call 12; (refine (one_any _).mono ?_); rintro e w1 ⟨rfl, hb1⟩; have P1 := Lib.hid (P0.below hb1); have Z1 := Lib.hid (Z0.below hb1); have U1 := Lib.hid (U0.then hb1); have R1 : Blk (w1.alloc (.cells Try.zeroCells27 27)) w1.heap.size 27 576 (fun _ => 0) := (by rw [zmat]; exact Blk.new _ _ _ _); clear hb1) | (refine wpList_store_row rfl 27 _ _ rfl (w1.heap.size) _ rfl rfl 27 _ (R1) (imat.trans (by rw [arrv_size])) (by rw [arrv_size, arrv_size]) (oneCell_arrv _ _) ?_))
  obtain ⟨w2, hw2⟩ : ∃ x, x = ((w1.alloc (.cells Try.zeroCells27 27)).setRow w1.heap.size (arrv 576 oneF)) := ⟨_, rfl⟩
  rw [← hw2]
  obtain ⟨M2, MB⟩ := Blk.made zmat oneF hw2
  obtain ⟨bf, hbf⟩ : ∃ x, w1.heap.size = x := ⟨_, rfl⟩
  obtain ⟨bq, hbq⟩ : ∃ x, w2.heap.size = x := ⟨_, rfl⟩
  have h1 : w.heap.size + 1 < bf := by rw [← hbf]; exact Z1.out.lt
  rw [hbf] at M2 ⊢
  have h2 : bf < bq := by rw [← hbq]; exact M2.lt
  have S2 : RtR c h bf bq f oneF (fun _ => 0) w (w2.alloc (.cells #[.int .i64 0, .int .i64 0, .int .i64 0, .int .i64 0, .int .i64 0, .int .i64 0, .int .i64 0, .int .i64 0, .int .i64 0, .int .i64 0, .int .i64 0, .int .i64 0, .int .i64 0, .int .i64 0, .int .i64 0, .int .i64 0, .int .i64 0, .int .i64 0, .int .i64 0, .int .i64 0, .int .i64 0, .int .i64 0, .int .i64 0, .int .i64 0] 23)) :=
    ⟨(U1.out.then MB).alloc _, (P1.out.below MB).alloc _, (Z1.out.below MB).alloc _, M2.alloc _, by rw [zcol, ← hbq]; exact Blk.new w2 _ _ _⟩
  have S2 := Lib.hid S2
  clear P0 Z0 U0 hz0 R1 hw2 M2 MB P1 Z1 U1 hW0 hbf
  go_upto_region 3 with fail
  (try rw [hbq])
  generalize w2.alloc (.cells #[.int .i64 0, .int .i64 0, .int .i64 0, .int .i64 0, .int .i64 0, .int .i64 0, .int .i64 0, .int .i64 0, .int .i64 0, .int .i64 0, .int .i64 0, .int .i64 0, .int .i64 0, .int .i64 0, .int .i64 0, .int .i64 0, .int .i64 0, .int .i64 0, .int .i64 0, .int .i64 0, .int .i64 0, .int .i64 0, .int .i64 0, .int .i64 0] 23) = W3 at *
  clear hbq
  go_wp2_with fail
  go_loopw [17] (fun i wr => ∃ k : Nat, k ≤ n ∧ i = .int .i64 k ∧ Hid (RtR c (h || orB (rtB fr L) k) bf bq f (rtF fr k) (rtQ fr L k) w wr)) (fun i _ => n - (intOf i).toNat)
  case atStart =>
    refine ⟨0, by omega, rfl, ?_⟩
    rw [show (h || orB (rtB fr L) 0) = h from by simp [orB]]
    exact S2
  case round =>
    obtain ⟨k, hk, rfl, R⟩ := hrel
    by_cases hkn : k < n
    · have d1 : decide ((k : Int) < (n : Int)) = true := by simp; omega
      obtain ⟨pb, po, rfl, hcell⟩ := HL.out k hkn
      have hne : (⟨pb, po + k, none⟩ : Addr) ≠ c := fun e => by rw [e, HC.out] at hcell; cases hcell
      have hpl := World.block_lt_of_cell? _ _ hcell
      have hcell' : wr.cell? ⟨pb, po + k, none⟩ = some (.int .i64 (L k)) := (R.out.upd.cell hpl (Ne.symm hne)).trans hcell
      have kw : IntKind.i64.wrap (fr + (k : Int)) = fr + (k : Int) := IntWalk.i64_in _ (by omega)
      obtain ⟨x, hx⟩ : ∃ x, fr + (k : Int) = x := ⟨_, rfl⟩
      rw [hx] at kw
      go_upto_region 7 with fail
      (try rw [hx]); (try rw [kw])
      by_cases hin : 0 ≤ x ∧ x < 24
      · obtain ⟨i, rfl⟩ : ∃ i : Nat, x = (i : Int) := ⟨x.toNat, by omega⟩
        have hi : i < 24 := by omega
        have q1 : decide ((0 : Int) ≤ (i : Int) ∧ (i : Int) < 24) = true := by simp; omega
        have qI : rtI fr k = true := by unfold rtI; rw [hx]; exact q1
        have qn : (fr + (k : Int)).toNat = i := by rw [hx]; simp
        go_upto_region 8 with (go_at_call 33; (refine (is_any (i : Int) _).mono ?_); rintro e w5 ⟨rfl, rfl⟩; (rw [q1]))
        obtain ⟨HK, hHK⟩ : ∃ y, (h || orB (rtB fr L) k) = y := ⟨_, rfl⟩
        rw [hHK] at R
        have HR := Lib.hid R.out
        have EK := Lib.hid (And.intro hHK (And.intro qI qn))
        have VC := Lib.hid (bvar_any c HK (L k) wr.drew (by exact R.out.upd.cellc HC.out) (by exact (R.out.upd.frozen hcb).trans HF.out))
        clear R hHK qI qn hcell hcell' kw hx q1 hpl hne S2
        refine wp_region_M (fun _ => True) 10 (by kernel_rfl) ?_ (fun hHeld => ?_)
        · trivial
        refine wpAnyM_take 0 (v := ?_) rfl (by kernel_rfl) (fun _ _ _ h => h) (Or.inl ⟨by rfl, ?_⟩) (by assumption) ?_
        rotate_left
        · (intro wx hSw; (try dsimp only at hSw); go_simp; (try with_reducible rfl))
        (try simp only [Act.put, nA, nB, nC])
        refine wpAnyM_take 1 (v := ?_) rfl (by kernel_rfl) (fun _ _ _ h => h) (Or.inl ⟨by rfl, ?_⟩) (by assumption) ?_
        rotate_left
        · (intro wx hSw; (try dsimp only at hSw); go_simp; (try with_reducible rfl))
        (try simp only [Act.put, nA, nB, nC])
        refine wpAnyM_take 2 (v := ?_) rfl (by kernel_rfl) (fun _ _ _ h => h) (Or.inl ⟨by rfl, ?_⟩) (by assumption) ?_
        rotate_left
        · (intro wx hSw; (try dsimp only at hSw); go_simp; (try with_reducible rfl))
        (try simp only [Act.put, nA, nB, nC])
        refine wpAnyM_take 3 (v := ?_) rfl (by kernel_rfl) (fun _ _ _ h => h) (Or.inl ⟨by rfl, ?_⟩) (by assumption) ?_
        rotate_left
        · (intro wx hSw; (try dsimp only at hSw); go_simp; (try with_reducible rfl))
        (try simp only [Act.put, nA, nB, nC])
        refine wpAnyM_take 4 (v := ?_) rfl (by kernel_rfl) (fun _ _ _ h => h) (Or.inl ⟨by rfl, ?_⟩) (by assumption) ?_
        rotate_left
        · (intro wx hSw; (try dsimp only at hSw); go_simp; (try with_reducible rfl))
        (try simp only [Act.put, nA, nB, nC])
        refine wpAnyM_take 6 (v := ?_) rfl (by kernel_rfl) (fun _ _ _ h => h) (Or.inl ⟨by rfl, ?_⟩) (by assumption) ?_
        rotate_left
        · (intro wx hSw; (try dsimp only at hSw); go_simp; (first | rw [if_pos (by omega)] | rw [if_pos ⟨by omega, by omega⟩] | skip); (try with_reducible rfl))
        (try simp only [Act.put, nA, nB, nC])
        refine wpAnyM_take 7 (v := ?_) rfl (by kernel_rfl) (fun _ _ _ h => h) (Or.inl ⟨by rfl, ?_⟩) (by assumption) ?_
        rotate_left
        · (intro wx hSw; (try dsimp only at hSw); go_simp; (first | rw [if_pos (by omega)] | rw [if_pos ⟨by omega, by omega⟩] | skip); (try with_reducible rfl))
        (try simp only [Act.put, nA, nB, nC])
        refine wpAnyM_oneS 5 rfl (by kernel_rfl) (fun K hK => ?_)
        go_simp
        (refine VC.out.mono ?_); rintro e w6 ⟨rfl, hw6⟩; have R6 := Lib.hid (HR.out.upd' hcb h1 h2 (Upd.after (Below.drew (Below.refl _ _)) ((Upd.set c (HK || varH (L k)) wr.drew).then (by rw [hw6]; exact Below.refl _ _)))); have n0 := R6.out.fB.cell (i := i * 24 + i) (by omega); have n1 := R6.out.fB.free (i * 24 + i); have n2 := (R6.out.qB.other (a := ⟨bf, i * 24 + i, none⟩) (by simp; omega) (.int .i64 0)).cell (i := i) hi; have n3 := (R6.out.qB.other (a := ⟨bf, i * 24 + i, none⟩) (by simp; omega) (.int .i64 0)).free i; clear hw6
        (try dsimp only)
        (try simp only [Act.put, nA, nB, nC])
        clear hHeld
        refine hK.out _ _ ?_ (fun hHeld => ?_)
        · trivial
        clear hK K
        (try simp only [Act.put, nA, nB, nC])
        refine wpAnyM_oneS 8 rfl (by kernel_rfl) (fun K hK => ?_)
        go_simp
        clear hHeld
        refine hK.out _ _ ?_ (fun hHeld => ?_)
        · trivial
        clear hK K
        (try simp only [Act.put, nA, nB, nC])
        refine wpAnyM_take 9 (v := ?_) rfl (by kernel_rfl) (fun _ _ _ h => h) (Or.inl ⟨by rfl, ?_⟩) (by assumption) ?_
        rotate_left
        · (intro wx hSw; (try dsimp only at hSw); go_simp; (first | rw [if_pos (by omega)] | rw [if_pos ⟨by omega, by omega⟩] | skip); (try with_reducible rfl))
        (try simp only [Act.put, nA, nB, nC])
        refine wpAnyM_one 10 rfl (by kernel_rfl) (fun K hK => ?_)
        go_simp
        refine hK.out _ _ (.inl (by kernel_rfl)) (fun _ => ?_)
        clear hK K
        (try simp only [Act.put, nA, nB, nC])
        refine wpAnyM_done (by kernel_rfl) ?_ _
        have R7 := Lib.hid (R6.out.setFQ h1 h2 (i * 24 + i) i 0 (varV (L k)))
        generalize (w6.setCell ⟨bf, i * 24 + i, none⟩ (.int .i64 0)).setCell ⟨bq, i, none⟩ (.int .i64 (varV (L k))) = W7 at *
        clear n0 n1 n2 n3 R6 HR VC
        (try clear hHeld)
        go_wp2_with fail
        go_roundw
        case rel =>
          obtain ⟨e1, e2, e3⟩ := EK.out
          refine ⟨k + 1, by omega, by go_num, ?_⟩
          rw [show (h || orB (rtB fr L) (k + 1)) = (HK || varH (L k)) from by rw [← e1]; simp [orB, rtB, e2, Bool.or_assoc], show rtF fr (k + 1) = Go.Proofs.Ytipkdkeacdmnaaa.upd (rtF fr k) (i * 24 + i) 0 from by simp only [rtF]; rw [if_pos e2, e3], show rtQ fr L (k + 1) = Go.Proofs.Ytipkdkeacdmnaaa.upd (rtQ fr L k) i (varV (L k)) from by simp only [rtQ]; rw [if_pos e2, e3]]
          exact R7
        case measure => simp [intOf]; omega
      · have q1 : decide ((0 : Int) ≤ x ∧ x < 24) = false := by simpa using hin
        have qI : rtI fr k = false := by unfold rtI; rw [hx]; exact q1
        have qI' : ¬ rtI fr k = true := by rw [qI]; simp
        have EK := Lib.hid qI'
        go_wp2_with (go_at_call 33; (refine (is_any x _).mono ?_); rintro e w5 ⟨rfl, rfl⟩; (rw [q1]))
        go_roundw
        case rel =>
          refine ⟨k + 1, by omega, by go_num, ?_⟩
          rw [show (h || orB (rtB fr L) (k + 1)) = (h || orB (rtB fr L) k) from by simp only [orB, rtB]; rw [if_neg EK.out, Bool.or_false], show rtF fr (k + 1) = rtF fr k from by simp only [rtF]; rw [if_neg EK.out], show rtQ fr L (k + 1) = rtQ fr L k from by simp only [rtQ]; rw [if_neg EK.out]]
          exact R
        case measure => simp [intOf]; omega
    · have hkn2 : k = n := by omega
      subst hkn2
      have d1 : decide ((k : Int) < (k : Int)) = false := by simp
      have P1 := R.out.pB
      have P2 := R.out.fB
      have P3 := R.out.qB
      have SC := Lib.hid (step_any c _ f (rtF fr k) (rtQ fr L k) wr (R.out.upd.cellc HC.out) ((R.out.upd.frozen hcb).trans HF.out))
      go_wp2_with (first | (refine wpList_load_row rfl 25 _ rfl (w.heap.size) rfl 25 _ (0, 0) _ (P1) Try.underlying25 rfl (icov.trans (by rw [arrv_size])) ?_) | (refine wpList_load_row rfl 27 _ rfl (bf) rfl 27 _ (0, 0) _ (P2) Try.underlying27 rfl (imat.trans (by rw [arrv_size])) ?_) | (refine wpList_load_row rfl 23 _ rfl (bq) rfl 23 _ (0, 0) _ (P3) Try.underlying23 rfl (icol.trans (by rw [arrv_size])) ?_) | (go_at_call 9; (refine SC.out.mono ?_); rintro e w8 ⟨rfl, hu8⟩; have Z8 := R.out.r0.upd hu8 (by omega); have U8 := Lib.hid (R.out.upd.trans hu8); clear hu8) | (refine wpList_store_row rfl 25 _ _ rfl (w.heap.size + 1) _ rfl rfl 25 _ (Z8) (icov.trans (by rw [arrv_size])) (by rw [arrv_size, arrv_size]) (oneCell_arrv _ _) ?_))
      refine bodyPost_ret (results_cell_row Try.results16 _ _ (w.heap.size + 1) 25 (arrv 300 (stepF f (rtF fr k) (rtQ fr L k))) (0, 0) _ rfl (setRow_heap _ _ _ _ _ _ Z8) Try.underlying25 rfl (icov.trans (by rw [arrv_size]))) rfl ⟨rfl, ?_⟩
      exact U8.out.then' (below_row (Below.refl _ _) (by omega) _)
end Go.Proofs.Ytipkdkeacdmnaaa
/- A slice of int64 that a call builds by append: what it owns. -/
namespace Go.Proofs.Ytipkdkeacdmnaaa
open Go.RowKit
def ints (n : Nat) (L : Nat → Int) : List Value := (List.range n).map fun i => .int .i64 (L i)
theorem ints_length (n : Nat) (L : Nat → Int) : (ints n L).length = n := by simp [ints]
theorem ints_succ (n : Nat) (L : Nat → Int) : ints (n + 1) L = ints n L ++ [.int .i64 (L n)] := by simp [ints, List.range_succ]
theorem ints_get {n : Nat} {L : Nat → Int} {i : Nat} (h : i < n) : (ints n L)[i]? = some (.int .i64 (L i)) := by simp [ints, h]
theorem ints_congr {n : Nat} {L M : Nat → Int} (h : ∀ i, i < n → L i = M i) : ints n L = ints n M := by
  apply List.ext_getElem?
  intro i
  by_cases hi : i < n
  · rw [ints_get hi, ints_get hi, h i hi]
  · rw [List.getElem?_eq_none (by rw [ints_length]; omega), List.getElem?_eq_none (by rw [ints_length]; omega)]
/-- v is a slice of n numbers L in a block of its own, from block B on. -/
def Own (w : World) (B T : Nat) (v : Value) (n : Nat) (L : Nat → Int) : Prop := w.ownsRow B T 1 v n (ints n L)
theorem Own.nil (w : World) (B T : Nat) (L : Nat → Int) : Own w B T (.slice none 0 0) 0 L := World.ownsRow_nil w B T 1
theorem Own.congr {w : World} {B T : Nat} {v : Value} {n : Nat} {L M : Nat → Int} (h : Own w B T v n L) (e : ∀ i, i < n → L i = M i) : Own w B T v n M := by
  unfold Own at *; rwa [← ints_congr e]
theorem Own.kept {w w' : World} {B T : Nat} {v : Value} {n : Nat} {L : Nat → Int} (h : Own w B T v n L) (hs : ∀ k, B ≤ k → k < w.heap.size → some k = v.ownBlock → w'.heap[k]? = w.heap[k]?) : Own w' B T v n L := by
  refine ⟨h.1, ?_⟩
  rcases h.2 with hn | ⟨g, cap, cur, rfl, hb, hgg, rest⟩
  · exact .inl hn
  · refine .inr ⟨g, cap, cur, rfl, hb, ?_, rest⟩
    rw [hs g hb (Array.getElem?_eq_some_iff.1 hgg).1 rfl]
    exact hgg
theorem Own.below {w w' : World} {B T : Nat} {v : Value} {n : Nat} {L : Nat → Int} (h : Own w B T v n L) (b : Below w.heap.size w w') : Own w' B T v n L := h.kept fun k _ hk _ => b.block k hk
theorem Own.drew {w : World} {B T : Nat} {v : Value} {n : Nat} {L : Nat → Int} (h : Own w B T v n L) : Own w.drew B T v n L := h
theorem Own.alloc {w : World} {B T : Nat} {v : Value} {n : Nat} {L : Nat → Int} (h : Own w B T v n L) (o : Obj) : Own (w.alloc o) B T v n L := h.below ((Below.refl _ _).alloc (Nat.le_refl _) o)
theorem Own.upd {w w' : World} {B T : Nat} {v : Value} {n : Nat} {L : Nat → Int} (h : Own w B T v n L) {c : Addr} {f : Bool} (u : Upd c f w w') (hc : c.block < B) : Own w' B T v n L := h.kept fun k hB hk _ => u.block hk (by omega)
theorem Own.grown {w w' : World} {B T : Nat} {v : Value} {n : Nat} {L : Nat → Int} (h : Own w B T v n L) {r : Option Nat} (g : w.grownBy w' r) (hn : ∀ k, v.ownBlock = some k → r ≠ some k) : Own w' B T v n L :=
  h.kept fun k _ hk e => g.block k hk (fun e2 => hn k e.symm e2.symm)
theorem Own.other {w : World} {B T : Nat} {v : Value} {n : Nat} {L : Nat → Int} (h : Own w B T v n L) {a : Addr} (ha : v.ownBlock ≠ some a.block) (x : Value) : Own (w.setCell a x) B T v n L :=
  h.kept fun k _ _ e => heap_setCell_other w a k x (fun e2 => ha (by rw [← e, e2]))
/-- As a slice: its numbers. -/
theorem Own.slc {w : World} {B T : Nat} {v : Value} {n : Nat} {L : Nat → Int} (h : Own w B T v n L) (hn : 0 < n) :
    ∃ g cp, v = .slice (some ⟨g, 0, none⟩) n cp ∧ B ≤ g ∧ g < w.heap.size ∧ ∀ i, i < n → w.cell? ⟨g, 0 + i, none⟩ = some (.int .i64 (L i)) := by
  rcases h.2 with ⟨_, h0⟩ | ⟨g, cap, cur, rfl, hb, hgg, h1, h2, h3, h4⟩
  · omega
  · refine ⟨g, cap, rfl, hb, (Array.getElem?_eq_some_iff.1 hgg).1, fun i hi => ?_⟩
    rw [Nat.zero_add, cell_of_row w g i cur T (0, 0) hgg]
    have := ints_get (L := L) hi
    rw [← h4, List.getElem?_take] at this
    split at this
    · simpa using this
    · cases this
/-- Whatever is behind an append: below the first own block nothing has turned. -/
theorem below_grown {B : Nat} {w0 w w' : World} {r : Option Nat} (b : Below B w0 w) (g : w.grownBy w' r) (hr : ∀ k, r = some k → B ≤ k) (hB : B ≤ w.heap.size) : Below B w0 w' :=
  b.trans ⟨g.os, g.tape, g.output, g.size, fun k hk => by
    exact g.block k (by omega) (fun e => by have := hr k e.symm; omega)⟩
end Go.Proofs.Ytipkdkeacdmnaaa
/- append of one number of int64 to a slice of the call's own. -/
namespace Go.Proofs.Ytipkdkeacdmnaaa
open Go.RowKit
open Go
theorem info_i64 : (Try.prog.info? 2).map (fun i => (i.zero, i.size, i.bytes)) = some (some (.int .i64 0), 1, 8) := by kernel_rfl
theorem info_i64' : ∃ i, Try.prog.info? 2 = some i ∧ i.zero = some (.int .i64 0) ∧ i.size = 1 ∧ i.bytes = 8 := by
  have h := info_i64
  cases e : Try.prog.info? 2 with
  | none => rw [e] at h; cases h
  | some i => rw [e] at h; simp at h; exact ⟨i, rfl, h.1, h.2.1, h.2.2⟩
theorem own_snoc {n : Nat} {L : Nat → Int} {x : Int} : ints n L ++ [.int .i64 x] = ints (n + 1) (upd L n x) := by
  rw [ints_succ]
  congr 1
  · exact ints_congr fun i hi => by simp [upd, show ¬ i = n by omega]
  · simp [upd]
theorem run_app1 {w : World} (B : Nat) {v : Value} {n : Nat} {L : Nat → Int} (hown : Own w B 2 v n L) (nb c : Nat) (x : Int) (hx : w.cell? ⟨nb, 0, none⟩ = some (.int .i64 x)) (hn : n ≤ 1000000) (hB : B ≤ w.heap.size) (ty : TypeId) (H : Nat) (hH : w.heap.size = H) :
    ∃ g cap w', (Builtin.append_ #[34, 34] ty #[v, .slice (some ⟨nb, 0, none⟩) 1 c]).run Try.prog w = .ok (.slice (some ⟨g, 0, none⟩) (n + 1) cap) w' ∧
      Own w' B 2 (.slice (some ⟨g, 0, none⟩) (n + 1) cap) (n + 1) (upd L n x) ∧ w.grownBy w' v.ownBlock ∧ (v.ownBlock = some g ∨ g = H) ∧ g < w'.heap.size := by
  obtain ⟨i, hi, hz, hs, hb⟩ := info_i64'
  obtain ⟨g, cap, w', h1, h2, h3, h4, h5⟩ := run_append_lies (P := Try.prog) w 34 ty B 2 i (.int .i64 0) 1 8 Try.underlying34 hi hz hs hb rfl (by decide) v n (ints n L) hown ⟨nb, 0, none⟩ 1 c [.int .i64 x] rfl
    (fun j u hu => by
      have hj : j = 0 := by
        have := List.getElem?_eq_some_iff.1 hu
        obtain ⟨h, _⟩ := this
        simpa using h
      subst hj
      simp at hu
      subst hu
      simpa [Addr.add] using hx) (fun u hu => by rw [List.mem_singleton] at hu; subst hu; rfl) (by decide) (by unfold maxLen; omega) (by omega) hB H hH
  exact ⟨g, cap, w', h1, by unfold Own; rw [← own_snoc]; exact h2, h3, h4, h5⟩
theorem wp_app1 {w : World} {o : Oper} {a : Act} {K : Act → World → Prop} {Q : Exit → Act → World → Prop} (s x : Operand)
    (ho : o.op = .call { callee := .builtin .append, args := #[s, x], argTypes := #[34, 34] })
    (B : Nat) {v : Value} {n : Nat} {L : Nat → Int} (hs : a.eval s = v) (hown : Own w B 2 v n L) (nb c : Nat) (y : Int) (hx : a.eval x = .slice (some ⟨nb, 0, none⟩) 1 c) (hy : w.cell? ⟨nb, 0, none⟩ = some (.int .i64 y)) (hn : n ≤ 1000000) (hB : B ≤ w.heap.size) (H : Nat) (hH : w.heap.size = H)
    (h : ∀ g cap w', Own w' B 2 (.slice (some ⟨g, 0, none⟩) (n + 1) cap) (n + 1) (upd L n y) → w.grownBy w' v.ownBlock → (v.ownBlock = some g ∨ g = H) → g < w'.heap.size → K (a.put o.dst (.slice (some ⟨g, 0, none⟩) (n + 1) cap)) w') : o.wp Try.prog a w K Q := by
  obtain ⟨g, cap, w', hr, h2, h3, h4, h5⟩ := run_app1 B hown nb c y hy hn hB o.type H hH
  unfold Oper.wp execOp
  simp only [ho, resolve, invoke, builtin, Sem.run_bind, Sem.run_pure, Result.andThen_ok, List.map_toArray, List.map_cons, List.map_nil, hs, hx, hr]
  exact h g cap w' h2 h3 h4 h5
theorem wpList_app1 {w : World} {ops : Array Oper} {rest : List Oper} {o : Oper} {a : Act} {Q : Exit → Act → World → Prop} (hgd : o.guard = none) (s x : Operand)
    (ho : o.op = .call { callee := .builtin .append, args := #[s, x], argTypes := #[34, 34] })
    (B : Nat) {v : Value} {n : Nat} {L : Nat → Int} (hs : a.eval s = v) (hown : Own w B 2 v n L) (nb c : Nat) (y : Int) (hx : a.eval x = .slice (some ⟨nb, 0, none⟩) 1 c) (hy : w.cell? ⟨nb, 0, none⟩ = some (.int .i64 y)) (hn : n ≤ 1000000) (hB : B ≤ w.heap.size) (H : Nat) (hH : w.heap.size = H)
    (h : ∀ g cap w', Own w' B 2 (.slice (some ⟨g, 0, none⟩) (n + 1) cap) (n + 1) (upd L n y) → w.grownBy w' v.ownBlock → (v.ownBlock = some g ∨ g = H) → g < w'.heap.size → wpList Try.prog ops Q rest (a.put o.dst (.slice (some ⟨g, 0, none⟩) (n + 1) cap)) w') : wpList Try.prog ops Q (o :: rest) a w :=
  wpList_plain hgd fun _ hK => wp_app1 s x ho B hs hown nb c y hx hy hn hB H hH fun g cap w' h2 h3 h4 h5 => hK _ _ (h g cap w' h2 h3 h4 h5)
theorem step_app1 {w : World} {ops : Array Oper} {o : Oper} {a : Act} {K : Act → World → Prop} {Q : Exit → Act → World → Prop} {E : Prop} (hgd : o.guard = none) (s x : Operand)
    (ho : o.op = .call { callee := .builtin .append, args := #[s, x], argTypes := #[34, 34] })
    (B : Nat) {v : Value} {n : Nat} {L : Nat → Int} (hs : a.eval s = v) (hown : Own w B 2 v n L) (nb c : Nat) (y : Int) (hx : a.eval x = .slice (some ⟨nb, 0, none⟩) 1 c) (hy : w.cell? ⟨nb, 0, none⟩ = some (.int .i64 y)) (hn : n ≤ 1000000) (hB : B ≤ w.heap.size) (H : Nat) (hH : w.heap.size = H)
    (h : ∀ g cap w', Own w' B 2 (.slice (some ⟨g, 0, none⟩) (n + 1) cap) (n + 1) (upd L n y) → w.grownBy w' v.ownBlock → (v.ownBlock = some g ∨ g = H) → g < w'.heap.size → K (a.put o.dst (.slice (some ⟨g, 0, none⟩) (n + 1) cap)) w') :
    if Region.wanted o (yielded ops a.tmps) = true then Oper.wp Try.prog o a w K Q else E := by
  have hw : Region.wanted o (yielded ops a.tmps) = true := by simp [Region.wanted, hgd]
  rw [if_pos hw]
  exact wp_app1 s x ho B hs hown nb c y hx hy hn hB H hH h
end Go.Proofs.Ytipkdkeacdmnaaa
/- Part of a block of numbers, loaded or stored as a whole. -/
namespace Go.Proofs.Ytipkdkeacdmnaaa
open Go.RowKit
end Go.Proofs.Ytipkdkeacdmnaaa
