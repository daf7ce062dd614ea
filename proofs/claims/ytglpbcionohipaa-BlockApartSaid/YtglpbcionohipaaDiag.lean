/- thornton.Step with One, of variances alone: the noises are added, and nothing else. No program. -/
import Derived.Test.YtglpbcionohipaaWith
namespace Go.Proofs.Ytglpbcionohipaa
theorem orB_no {p : Nat → Bool} : ∀ {n : Nat}, (∀ i, i < n → p i = false) → orB p n = false
  | 0, _ => rfl
  | n + 1, h => by simp only [orB]; rw [orB_no fun i hi => h i (by omega), h n (by omega)]; rfl
theorem satV_0 : satV 0 = 0 := by decide
theorem satH_0 : satH 0 = false := by decide
theorem satV_one : satV 1073741824 = 1073741824 := by decide
theorem satH_one : satH 1073741824 = false := by decide
theorem rsh_mul (e : Int) : rsh (1073741824 * e) 30 = e := by
  have h2 : ((2 : Int) ^ 30) = 1073741824 := by decide
  unfold rsh rdiv
  rw [h2]
  have : (1073741824 * e).natAbs = 1073741824 * e.natAbs := by rw [Int.natAbs_mul]; rfl
  rw [this, show (1073741824 : Int).natAbs = 1073741824 from rfl]
  have e1 : (2 * (1073741824 * e.natAbs) + 1073741824) / (2 * 1073741824) = e.natAbs := by omega
  rw [e1]
  by_cases he : 0 ≤ e
  · rw [if_pos (by simp; omega)]; omega
  · rw [if_neg (by simp; omega)]; omega
theorem rsh_0 : rsh 0 30 = 0 := by decide
theorem mulV_one {e : Int} (h1 : -1152921504606846976 ≤ e) (h2 : e ≤ 1152921504606846976) : mulV 1073741824 e 30 = e := by
  unfold mulV
  rw [if_neg (by decide), satV_one, satV_id h1 h2, show (30 : Int).toNat = 30 from rfl, rsh_mul, satV_id h1 h2]
theorem mulH_one {e : Int} (h1 : -1152921504606846976 ≤ e) (h2 : e ≤ 1152921504606846976) : mulH 1073741824 e 30 = false := by
  unfold mulH
  rw [satV_one, satV_id h1 h2, show (30 : Int).toNat = 30 from rfl, rsh_mul, satH_one, satH_no h1 h2]; rfl
theorem mulV_0 (e : Int) : mulV 0 e 30 = 0 := by
  unfold mulV
  rw [if_neg (by decide), satV_0, Int.zero_mul, show (30 : Int).toNat = 30 from rfl, rsh_0, satV_0]
theorem mulH_0 {e : Int} (h1 : -1152921504606846976 ≤ e) (h2 : e ≤ 1152921504606846976) : mulH 0 e 30 = false := by
  unfold mulH
  rw [satV_0, Int.zero_mul, show (30 : Int).toNat = 30 from rfl, rsh_0, satH_no h1 h2]; decide
theorem subV_0 {a : Int} (h1 : -1152921504606846976 ≤ a) (h2 : a ≤ 1152921504606846976) : subV a 0 = a := by
  unfold subV; rw [satV_0, Int.sub_zero, satV_id h1 h2, satV_id h1 h2]
theorem subH_0 {a : Int} (h1 : -1152921504606846976 ≤ a) (h2 : a ≤ 1152921504606846976) : subH a 0 = false := by
  unfold subH; rw [satV_0, Int.sub_zero, satV_id h1 h2, satH_no h1 h2, satH_0]; rfl
theorem rdiv_0 {d : Int} (h : d ≠ 0) : rdiv 0 d = 0 := by
  unfold rdiv
  have : (2 * (0 : Int).natAbs + d.natAbs) / (2 * d.natAbs) = 0 := Nat.div_eq_of_lt (by have := Int.natAbs_pos.2 h; simp; omega)
  rw [this]
  split <;> rfl
/-- A product taken out of a sum of products. -/
theorem dotS_out (A B : Nat → Int) (a : Nat) : ∀ n, a < n → dotS A B n = dotS (upd A a 0) B n + satV (A a) * satV (B a)
  | 0, h => by omega
  | n + 1, h => by
    simp only [dotS]
    by_cases ha : a = n
    · subst ha
      have e : ∀ m, m ≤ a → dotS (upd A a 0) B m = dotS A B m := by
        intro m
        induction m with
        | zero => intro _; rfl
        | succ m ih => intro hm; simp only [dotS]; rw [ih (by omega)]; simp only [upd]; rw [if_neg (by omega)]
      rw [e a (Nat.le_refl _)]
      simp only [upd, if_pos, satV_0, Int.zero_mul]
      omega
    · rw [dotS_out A B a n (by omega)]
      simp only [upd]
      rw [if_neg (by omega : ¬ n = a)]
      omega
theorem dotS_no {A B : Nat → Int} : ∀ {n : Nat}, (∀ i, i < n → A i = 0 ∨ B i = 0) → dotS A B n = 0
  | 0, _ => rfl
  | n + 1, h => by
    simp only [dotS]
    rw [dotS_no fun i hi => h i (by omega)]
    rcases h n (by omega) with e | e <;> rw [e, satV_0] <;> simp
theorem dotS_congr {A B A' B' : Nat → Int} : ∀ {n : Nat}, (∀ i, i < n → A i = A' i ∧ B i = B' i) → dotS A B n = dotS A' B' n
  | 0, _ => rfl
  | n + 1, h => by
    simp only [dotS]
    rw [dotS_congr fun i hi => h i (by omega), (h n (by omega)).1, (h n (by omega)).2]
theorem dotB_no {A B : Nat → Int} : ∀ {n : Nat}, (∀ i, i < n → satH (A i) = false ∧ satH (B i) = false) → dotB A B n = false
  | 0, _ => rfl
  | n + 1, h => by
    simp only [dotB]
    rw [dotB_no fun i hi => h i (by omega), (h n (by omega)).1, (h n (by omega)).2]; rfl
/-- Of the products but one at a. -/
theorem dotS_1 {A B : Nat → Int} {n a : Nat} (ha : a < n) (h : ∀ i, i < n → i ≠ a → A i = 0 ∨ B i = 0) : dotS A B n = satV (A a) * satV (B a) := by
  rw [dotS_out A B a n ha, dotS_no, Int.zero_add]
  intro i hi
  by_cases e : i = a
  · left; simp [upd, e]
  · rcases h i hi e with h | h
    · left; simp [upd, e, h]
    · right; exact h
theorem dotS_2 {A B : Nat → Int} {n a b : Nat} (ha : a < n) (hb : b < n) (hab : a ≠ b) (h : ∀ i, i < n → i ≠ a → i ≠ b → A i = 0 ∨ B i = 0) : dotS A B n = satV (A a) * satV (B a) + satV (A b) * satV (B b) := by
  rw [dotS_out A B a n ha, dotS_1 hb, Int.add_comm]
  · congr 2; simp [upd, Ne.symm hab]
  · intro i hi hib
    by_cases e : i = a
    · left; simp [upd, e]
    · rcases h i hi e hib with h | h
      · left; simp [upd, e, h]
      · right; exact h
/-- The rows that are orthogonal from the start. -/
def idW (x : Nat) : Int := if x % 48 = x / 48 ∨ x % 48 = 24 + x / 48 then 1073741824 else 0
theorem idW_bd (x : Nat) : -1152921504606846976 ≤ idW x ∧ idW x ≤ 1152921504606846976 := by unfold idW; split <;> omega
theorem idW_at {i k : Nat} (hk : k < 48) : idW (i * 48 + k) = if k = i ∨ k = 24 + i then 1073741824 else 0 := by
  unfold idW
  rw [show (i * 48 + k) % 48 = k by omega, show (i * 48 + k) / 48 = i by omega]
theorem tri_le {j : Nat} (hj : j < 24) : j * (j - 1) / 2 + j ≤ 276 := by
  have : ∀ j : Fin 24, j.val * (j.val - 1) / 2 + j.val ≤ 276 := by decide
  exact this ⟨j, hj⟩
section
variable {W e : Nat → Int} (hW : ∀ x, x < 1152 → W x = idW x) (he : ∀ k, k < 48 → 0 ≤ e k ∧ e k ≤ 72057594037927936)
include hW he
theorem stY_id {j k : Nat} (hj : j < 24) (hk : k < 48) : stY W e j k = if k = j ∨ k = 24 + j then e k else 0 := by
  unfold stY
  rw [hW _ (by omega), idW_at hk]
  have := he k hk
  split
  · rw [mulV_one (by omega) (by omega)]
  · rw [mulV_0]
theorem dot_id {i j : Nat} (hi : i < 24) (hj : j < 24) : dotS (rowF 48 W i) (stY W e j) 48 = if i = j then 1073741824 * (e j + e (24 + j)) else 0 := by
  by_cases hij : i = j
  · subst hij
    have h1 := he i (by omega)
    have h2 := he (24 + i) (by omega)
    rw [if_pos rfl, dotS_2 (a := i) (b := 24 + i) (by omega) (by omega) (by omega)]
    · rw [stY_id hW he hj (by omega), stY_id hW he hj (by omega), if_pos (.inl rfl), if_pos (.inr rfl)]
      simp only [rowF]
      rw [hW _ (by omega), hW _ (by omega), idW_at (by omega), idW_at (by omega), if_pos (.inl rfl), if_pos (.inr rfl), satV_one, satV_id (by omega) (by omega), satV_id (by omega) (by omega), Int.mul_add]
    · intro k hk h1 h2
      right
      rw [stY_id hW he hj hk, if_neg (by omega)]
  · rw [if_neg hij, dotS_no]
    intro k hk
    by_cases h : k = j ∨ k = 24 + j
    · left
      simp only [rowF]
      rw [hW _ (by omega), idW_at hk, if_neg (by omega)]
    · right
      rw [stY_id hW he hj hk, if_neg h]
theorem dotB_id {i j : Nat} (hi : i < 24) (hj : j < 24) : dotB (rowF 48 W i) (stY W e j) 48 = false := by
  refine dotB_no fun k hk => ⟨?_, ?_⟩
  · simp only [rowF]
    rw [hW _ (by omega)]
    exact satH_no (idW_bd _).1 (idW_bd _).2
  · rw [stY_id hW he hj hk]
    have := he k hk
    split
    · exact satH_no (by omega) (by omega)
    · exact satH_0
variable (hs : ∀ j, j < 24 → 1 ≤ e j + e (24 + j) ∧ e j + e (24 + j) ≤ 72057594037927936)
include hs
theorem stD_id {j : Nat} (hj : j < 24) : stD W e j = e j + e (24 + j) ∧ dB W e j = false := by
  have := hs j hj
  have hd : dotV 30 (rowF 48 W j) (stY W e j) 48 = e j + e (24 + j) := by
    unfold dotV
    rw [if_neg (by decide), dot_id hW he hj hj, if_pos rfl, show (30 : Int).toNat = 30 from rfl, rsh_mul, satV_id (by omega) (by omega)]
  constructor
  · unfold stD
    rw [hd]
    unfold varV clampV
    rw [if_neg (by omega), if_neg (by omega), if_neg (by omega)]
  · unfold dB
    rw [hd]
    unfold dotH
    rw [if_neg (by decide), dotB_id hW he hj hj, dot_id hW he hj hj, if_pos rfl, show (30 : Int).toNat = 30 from rfl, rsh_mul, satH_no (by omega) (by omega)]
    unfold varH clampH
    simp; omega
theorem stU_id {i j : Nat} (hi : i < j) (hj : j < 24) : stU W e j i = 0 ∧ uB W e j i = false := by
  have hd : dotV 30 (rowF 48 W i) (stY W e j) 48 = 0 := by
    unfold dotV
    rw [if_neg (by decide), dot_id hW he (by omega) hj, if_neg (by omega), show (30 : Int).toNat = 30 from rfl, rsh_0, satV_0]
  have hD := (stD_id hW he hs hj).1
  have := hs j hj
  constructor
  · unfold stU divV byV
    rw [hd, hD, if_neg (by decide), satV_0, Int.zero_mul, satV_id (by omega) (by omega), if_neg (by omega)]
    rw [rdiv_0 (by omega), satV_0]
  · unfold uB
    rw [hd, hD]
    unfold dotH divH byH
    rw [if_neg (by decide), dotB_id hW he (by omega) hj, dot_id hW he (by omega) hj, if_neg (by omega), show (30 : Int).toNat = 30 from rfl, rsh_0, satV_0, satH_0, Int.zero_mul, satV_id (by omega) (by omega), satH_no (by omega) (by omega)]
    rw [rdiv_0 (by omega), satH_0]
    simp; omega
theorem stage_id {j : Nat} (hj : j < 24) : (∀ x, x < 1152 → elW W e j j 0 x = idW x) ∧ stageH W e j = false := by
  constructor
  · intro x hx
    unfold elW
    split
    · unfold elV
      rw [(stU_id hW he hs (by omega) hj).1, mulV_0, show x / 48 * 48 + x % 48 = x by omega, hW x hx, subV_0 (idW_bd x).1 (idW_bd x).2]
    · exact hW x hx
  · unfold stageH
    rw [(stD_id hW he hs hj).2, orB_no, orB_no]; rfl
    · intro i hi
      unfold rowB
      rw [(stU_id hW he hs hi hj).2, orB_no]; rfl
      intro k hk
      unfold elB
      rw [(stU_id hW he hs hi hj).1, mulV_0, hW _ (by omega), hW _ (by omega), mulH_0 (idW_bd _).1 (idW_bd _).2, subH_0 (idW_bd _).1 (idW_bd _).2]; rfl
    · intro k hk
      unfold yB
      have := he k hk
      rw [hW _ (by omega), idW_at hk]
      split
      · exact mulH_one (by omega) (by omega)
      · exact mulH_0 (by omega) (by omega)
theorem outI_id (O : Nat → Int) {j : Nat} (hj : j < 24) : ∀ m, m ≤ j → ∀ x, x < 300 → outI O W e j m x = if x = 276 + j then e j + e (24 + j) else if j * (j - 1) / 2 ≤ x ∧ x < j * (j - 1) / 2 + m then 0 else O x
  | 0, _, x, hx => by
    simp only [outI, upd]
    rw [(stD_id hW he hs hj).1]
    split
    · rfl
    · rw [if_neg (by omega)]
  | m + 1, hm, x, hx => by
    have ht := tri_le hj
    have hp : pl m j = j * (j - 1) / 2 + m := rfl
    simp only [outI, upd]
    rw [outI_id O hj m (by omega) x hx, (stU_id hW he hs (by omega) hj).1]
    by_cases h1 : x = pl m j
    · rw [if_pos h1, if_neg (by omega), if_pos (by omega)]
    · rw [if_neg h1]
      split
      · rfl
      · split <;> split <;> first | rfl | omega
end
theorem all_id {W e : Nat → Int} (hW : ∀ x, x < 1152 → W x = idW x) (he : ∀ k, k < 48 → 0 ≤ e k ∧ e k ≤ 72057594037927936)
    (hs : ∀ j, j < 24 → 1 ≤ e j + e (24 + j) ∧ e j + e (24 + j) ≤ 72057594037927936) : ∀ n, n ≤ 24 →
    (∀ x, x < 1152 → WN W e n x = idW x) ∧ HN W e n = false ∧ ∀ x, x < 300 → ON W e n x = if 300 - n ≤ x then e (x - 276) + e (24 + (x - 276)) else 0
  | 0, _ => ⟨hW, rfl, fun x hx => by rw [if_neg (by omega)]; rfl⟩
  | n + 1, hn => by
    obtain ⟨h1, h2, h3⟩ := all_id hW he hs n (by omega)
    have ht := tri_le (j := 23 - n) (by omega)
    have hst := stage_id h1 he hs (j := 23 - n) (by omega)
    refine ⟨hst.1, ?_, fun x hx => ?_⟩
    · simp only [HN]; rw [h2, hst.2]; rfl
    · simp only [ON]
      rw [outI_id h1 he hs _ (by omega) _ (Nat.le_refl _) x hx, h3 x hx]
      by_cases hx1 : x = 276 + (23 - n)
      · rw [if_pos hx1, if_pos (by omega), hx1, show 276 + (23 - n) - 276 = 23 - n by omega]
      · rw [if_neg hx1]
        by_cases hx2 : 300 - n ≤ x
        · rw [if_pos hx2, if_neg (by omega), if_pos (by omega)]
        · have hx3 : ¬ 300 - (n + 1) ≤ x := by omega
          rw [if_neg hx2, if_neg hx3]
          split <;> rfl

/-- A covariance of variances alone. -/
def DiagF (f : Nat → Int) : Prop := (∀ x, x < 276 → f x = 0) ∧ ∀ i, i < 24 → 1 ≤ f (276 + i) ∧ f (276 + i) ≤ 72057594037927936
theorem varV_id {a : Int} (h : 1 ≤ a) (h' : a ≤ 72057594037927936) : varV a = a ∧ varH a = false := by
  constructor
  · unfold varV clampV; rw [if_neg (by omega), if_neg (by omega), if_neg (by omega)]
  · unfold varH clampH; simp; omega
theorem qV_id {a : Int} (h : 0 ≤ a) (h' : a ≤ 72057594037927936) : qV a = a ∧ qH a = false := by
  constructor
  · unfold qV clampV; rw [if_neg (by omega), if_neg (by omega), if_neg (by omega)]
  · unfold qH clampH; simp; omega
theorem cond_diag {f : Nat → Int} (h : DiagF f) : (∀ x, x < 300 → condF f x = f x) ∧ condH f = false := by
  constructor
  · intro x hx
    unfold condF
    split
    · rename_i h1; rw [h.1 x h1, satV_0]
    · have := h.2 (x - 276) (by omega)
      rw [show 276 + (x - 276) = x by omega] at this
      exact (varV_id this.1 this.2).1
  · unfold condH
    rw [orB_no, orB_no]; rfl
    · intro i hi; rw [h.1 i hi, satH_0]
    · intro i hi; exact (varV_id (h.2 i hi).1 (h.2 i hi).2).2
theorem oneF_bd (x : Nat) : satV (oneF x) = oneF x ∧ satH (oneF x) = false := by
  unfold oneF; split
  · exact ⟨satV_one, satH_one⟩
  · exact ⟨satV_0, satH_0⟩
theorem fS_one (x : Nat) : fS oneF 24 0 x = oneF x := by
  unfold fS; split
  · exact (oneF_bd x).1
  · rfl
theorem oneF_at {i m : Nat} (hm : m < 24) : oneF (i * 24 + m) = if i = m then 1073741824 else 0 := by
  unfold oneF
  rw [show (i * 24 + m) / 24 = i by omega, show (i * 24 + m) % 24 = m by omega]
theorem colF_diag {f : Nat → Int} (h : ∀ x, x < 276 → f x = 0) {k m : Nat} (hk : k < 24) : colF f k m = if m = k then 1073741824 else 0 := by
  unfold colF uV
  have ht := tri_le hk
  by_cases e : m = k
  · rw [if_pos (by omega), if_pos e, if_pos e]
  · rw [if_neg e, if_neg e]
    split
    · rw [if_pos (by omega)]
      exact h _ (by unfold pl; omega)
    · rfl
theorem rw_diag {f : Nat → Int} (h : ∀ x, x < 276 → f x = 0) {i k : Nat} (hi : i < 24) (hk : k < 24) :
    rwV f (fS oneF 24 0) i k = (if i = k then 1073741824 else 0) ∧ rwB f (fS oneF 24 0) i k = false := by
  have hd : dotS (rowF 24 (fS oneF 24 0) i) (colF f k) 24 = if i = k then 1073741824 * 1073741824 else 0 := by
    by_cases e : i = k
    · subst e
      rw [if_pos rfl, dotS_1 (a := i) hi]
      · simp only [rowF]
        rw [fS_one, oneF_at hi, if_pos rfl, colF_diag h hi, if_pos rfl, satV_one]
      · intro m hm hmi
        left
        simp only [rowF]
        rw [fS_one, oneF_at hm, if_neg (by omega)]
    · rw [if_neg e, dotS_no]
      intro m hm
      by_cases e2 : i = m
      · right; rw [colF_diag h hk, if_neg (by omega)]
      · left; simp only [rowF]; rw [fS_one, oneF_at hm, if_neg e2]
  have hb : dotB (rowF 24 (fS oneF 24 0) i) (colF f k) 24 = false := by
    refine dotB_no fun m hm => ⟨?_, ?_⟩
    · simp only [rowF]; rw [fS_one]; exact (oneF_bd _).2
    · rw [colF_diag h hk]; split; exact satH_one; exact satH_0
  unfold rwV rwB dotV dotH
  rw [if_neg (by decide : ¬ ((30 : Int) < 0 ∨ (120 : Int) < 30)), if_neg (by decide : ¬ ((30 : Int) < 0 ∨ (120 : Int) < 30)), hb, hd, show (30 : Int).toNat = 30 from rfl]
  by_cases e : i = k
  · rw [if_pos e, if_pos e, rsh_mul]; exact ⟨satV_one, by rw [satH_one]; rfl⟩
  · rw [if_neg e, if_neg e, rsh_0]; exact ⟨satV_0, by rw [satH_0]; rfl⟩
theorem step_diag {f q : Nat → Int} (h : DiagF f) (hq : ∀ i, i < 24 → 0 ≤ q i ∧ f (276 + i) + q i ≤ 72057594037927936) :
    (∀ x, x < 300 → stepF f oneF q x = if x < 276 then 0 else f x + q (x - 276)) ∧ stepH f oneF q = false := by
  have hc := cond_diag h
  have hcu : ∀ x, x < 276 → condF f x = 0 := fun x hx => by rw [hc.1 x (by omega), h.1 x hx]
  have hW : ∀ x, x < 1152 → stepW f oneF x = idW x := by
    intro x hx
    unfold stepW rowsW idW
    split
    · rw [(rw_diag hcu (by omega) (by omega)).1]
      split <;> split <;> first | rfl | omega
    · split <;> split <;> first | rfl | omega
  have hE : ∀ k, k < 48 → stepE f q k = if k < 24 then f (276 + k) else q (k - 24) := by
    intro k hk
    unfold stepE eS
    split
    · rw [hc.1 _ (by omega)]
    · rw [if_pos (by omega)]
      have h1 := hq (k - 24) (by omega)
      have h2 := h.2 (k - 24) (by omega)
      exact (qV_id (by omega) (by omega)).1
  have hA := all_id (W := stepW f oneF) (e := stepE f q) hW (fun k hk => by
    rw [hE k hk]
    split
    · have := h.2 k (by omega); omega
    · have h1 := hq (k - 24) (by omega)
      have h2 := h.2 (k - 24) (by omega)
      omega) (fun j hj => by
    rw [hE j (by omega), hE (24 + j) (by omega), if_pos hj, if_neg (by omega), show 24 + j - 24 = j by omega]
    have h1 := hq j hj
    have h2 := h.2 j hj
    omega) 24 (Nat.le_refl _)
  constructor
  · intro x hx
    unfold stepF
    rw [hA.2.2 x hx]
    by_cases e : x < 276
    · rw [if_neg (by omega), if_pos e]
    · rw [if_pos (by omega), if_neg e, hE _ (by omega), hE _ (by omega), if_pos (by omega), if_neg (by omega), show 276 + (x - 276) = x by omega, show 24 + (x - 276) - 24 = x - 276 by omega]
  · unfold stepH
    rw [hc.2, hA.2.1]
    have h1 : loop1H q oneF 24 = false := by
      unfold loop1H
      refine orB_no fun i hi => ?_
      have h1 := hq i hi
      have h2 := h.2 i hi
      rw [(qV_id (a := q i) (by omega) (by omega)).2]
      unfold row1H
      rw [orB_no]; rfl
      intro k hk; exact (oneF_bd _).2
    have h2 : rowsH (condF f) (fS oneF 24 0) = false := by
      unfold rowsH rwH
      refine orB_no fun k hk => orB_no fun i hi => ?_
      exact (rw_diag hcu hi hk).2
    rw [h1, h2]; rfl
end Go.Proofs.Ytglpbcionohipaa
