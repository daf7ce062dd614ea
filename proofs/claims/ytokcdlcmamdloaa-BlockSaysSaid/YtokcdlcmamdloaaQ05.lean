/- Contracts of the program's functions and plain laws, part 5: they hold for all arguments. -/
import Derived.Test.YtokcdlcmamdloaaQ04
import Derived.Test.YtokcdlcmamdloaaQ03
/- thornton.Step with One, of variances alone: the noises are added, and nothing else. No program. -/
namespace Go.Proofs.Ytokcdlcmamdloaa
theorem orB_no {p : Nat → Bool} : ∀ {n : Nat}, (∀ i, i < n → p i = false) → orB p n = false
  | 0, _ => rfl
  | n + 1, h => by simp only [orB]; rw [orB_no fun i hi => h i (by omega), h n (by omega)]; rfl
theorem satV_0 : satV 0 = 0 := by decide
theorem satH_0 : satH 0 = false := by decide
theorem satV_one : satV 1073741824 = 1073741824 := by decide
theorem satH_one : satH 1073741824 = false := by decide
theorem rsh_mul (e : Int) : rsh (1073741824 * e) 30 = e := by
  have h2 : ((2 : Int) ^ 30) = 1073741824 := by decide
  unfold rsh rdiv
  rw [h2]
  have : (1073741824 * e).natAbs = 1073741824 * e.natAbs := by rw [Int.natAbs_mul]; rfl
  rw [this, show (1073741824 : Int).natAbs = 1073741824 from rfl]
  have e1 : (2 * (1073741824 * e.natAbs) + 1073741824) / (2 * 1073741824) = e.natAbs := by omega
  rw [e1]
  by_cases he : 0 ≤ e
  · rw [if_pos (by simp; omega)]; omega
  · rw [if_neg (by simp; omega)]; omega
theorem rsh_0 : rsh 0 30 = 0 := by decide
theorem mulV_one {e : Int} (h1 : -1152921504606846976 ≤ e) (h2 : e ≤ 1152921504606846976) : mulV 1073741824 e 30 = e := by
  unfold mulV
  rw [if_neg (by decide), satV_one, satV_id h1 h2, show (30 : Int).toNat = 30 from rfl, rsh_mul, satV_id h1 h2]
theorem mulH_one {e : Int} (h1 : -1152921504606846976 ≤ e) (h2 : e ≤ 1152921504606846976) : mulH 1073741824 e 30 = false := by
  unfold mulH
  rw [satV_one, satV_id h1 h2, show (30 : Int).toNat = 30 from rfl, rsh_mul, satH_one, satH_no h1 h2]; rfl
theorem mulV_0 (e : Int) : mulV 0 e 30 = 0 := by
  unfold mulV
  rw [if_neg (by decide), satV_0, Int.zero_mul, show (30 : Int).toNat = 30 from rfl, rsh_0, satV_0]
theorem mulH_0 {e : Int} (h1 : -1152921504606846976 ≤ e) (h2 : e ≤ 1152921504606846976) : mulH 0 e 30 = false := by
  unfold mulH
  rw [satV_0, Int.zero_mul, show (30 : Int).toNat = 30 from rfl, rsh_0, satH_no h1 h2]; decide
theorem subV_0 {a : Int} (h1 : -1152921504606846976 ≤ a) (h2 : a ≤ 1152921504606846976) : subV a 0 = a := by
  unfold subV; rw [satV_0, Int.sub_zero, satV_id h1 h2, satV_id h1 h2]
theorem subH_0 {a : Int} (h1 : -1152921504606846976 ≤ a) (h2 : a ≤ 1152921504606846976) : subH a 0 = false := by
  unfold subH; rw [satV_0, Int.sub_zero, satV_id h1 h2, satH_no h1 h2, satH_0]; rfl
theorem rdiv_0 {d : Int} (h : d ≠ 0) : rdiv 0 d = 0 := by
  unfold rdiv
  have : (2 * (0 : Int).natAbs + d.natAbs) / (2 * d.natAbs) = 0 := Nat.div_eq_of_lt (by have := Int.natAbs_pos.2 h; simp; omega)
  rw [this]
  split <;> rfl
/-- A product taken out of a sum of products. -/
theorem dotS_out (A B : Nat → Int) (a : Nat) : ∀ n, a < n → dotS A B n = dotS (upd A a 0) B n + satV (A a) * satV (B a)
  | 0, h => by omega
  | n + 1, h => by
    simp only [dotS]
    by_cases ha : a = n
    · subst ha
      have e : ∀ m, m ≤ a → dotS (upd A a 0) B m = dotS A B m := by
        intro m
        induction m with
        | zero => intro _; rfl
        | succ m ih => intro hm; simp only [dotS]; rw [ih (by omega)]; simp only [upd]; rw [if_neg (by omega)]
      rw [e a (Nat.le_refl _)]
      simp only [upd, if_pos, satV_0, Int.zero_mul]
      omega
    · rw [dotS_out A B a n (by omega)]
      simp only [upd]
      rw [if_neg (by omega : ¬ n = a)]
      omega
theorem dotS_no {A B : Nat → Int} : ∀ {n : Nat}, (∀ i, i < n → A i = 0 ∨ B i = 0) → dotS A B n = 0
  | 0, _ => rfl
  | n + 1, h => by
    simp only [dotS]
    rw [dotS_no fun i hi => h i (by omega)]
    rcases h n (by omega) with e | e <;> rw [e, satV_0] <;> simp
theorem dotS_congr {A B A' B' : Nat → Int} : ∀ {n : Nat}, (∀ i, i < n → A i = A' i ∧ B i = B' i) → dotS A B n = dotS A' B' n
  | 0, _ => rfl
  | n + 1, h => by
    simp only [dotS]
    rw [dotS_congr fun i hi => h i (by omega), (h n (by omega)).1, (h n (by omega)).2]
theorem dotB_no {A B : Nat → Int} : ∀ {n : Nat}, (∀ i, i < n → satH (A i) = false ∧ satH (B i) = false) → dotB A B n = false
  | 0, _ => rfl
  | n + 1, h => by
    simp only [dotB]
    rw [dotB_no fun i hi => h i (by omega), (h n (by omega)).1, (h n (by omega)).2]; rfl
/-- Of the products but one at a. -/
theorem dotS_1 {A B : Nat → Int} {n a : Nat} (ha : a < n) (h : ∀ i, i < n → i ≠ a → A i = 0 ∨ B i = 0) : dotS A B n = satV (A a) * satV (B a) := by
  rw [dotS_out A B a n ha, dotS_no, Int.zero_add]
  intro i hi
  by_cases e : i = a
  · left; simp [upd, e]
  · rcases h i hi e with h | h
    · left; simp [upd, e, h]
    · right; exact h
theorem dotS_2 {A B : Nat → Int} {n a b : Nat} (ha : a < n) (hb : b < n) (hab : a ≠ b) (h : ∀ i, i < n → i ≠ a → i ≠ b → A i = 0 ∨ B i = 0) : dotS A B n = satV (A a) * satV (B a) + satV (A b) * satV (B b) := by
  rw [dotS_out A B a n ha, dotS_1 hb, Int.add_comm]
  · congr 2; simp [upd, Ne.symm hab]
  · intro i hi hib
    by_cases e : i = a
    · left; simp [upd, e]
    · rcases h i hi e hib with h | h
      · left; simp [upd, e, h]
      · right; exact h
/-- The rows that are orthogonal from the start. -/
def idW (x : Nat) : Int := if x % 48 = x / 48 ∨ x % 48 = 24 + x / 48 then 1073741824 else 0
theorem idW_bd (x : Nat) : -1152921504606846976 ≤ idW x ∧ idW x ≤ 1152921504606846976 := by unfold idW; split <;> omega
theorem idW_at {i k : Nat} (hk : k < 48) : idW (i * 48 + k) = if k = i ∨ k = 24 + i then 1073741824 else 0 := by
  unfold idW
  rw [show (i * 48 + k) % 48 = k by omega, show (i * 48 + k) / 48 = i by omega]
theorem tri_le {j : Nat} (hj : j < 24) : j * (j - 1) / 2 + j ≤ 276 := by
  have : ∀ j : Fin 24, j.val * (j.val - 1) / 2 + j.val ≤ 276 := by decide
  exact this ⟨j, hj⟩
section
variable {W e : Nat → Int} (hW : ∀ x, x < 1152 → W x = idW x) (he : ∀ k, k < 48 → 0 ≤ e k ∧ e k ≤ 72057594037927936)
include hW he
theorem stY_id {j k : Nat} (hj : j < 24) (hk : k < 48) : stY W e j k = if k = j ∨ k = 24 + j then e k else 0 := by
  unfold stY
  rw [hW _ (by omega), idW_at hk]
  have := he k hk
  split
  · rw [mulV_one (by omega) (by omega)]
  · rw [mulV_0]
theorem dot_id {i j : Nat} (hi : i < 24) (hj : j < 24) : dotS (rowF 48 W i) (stY W e j) 48 = if i = j then 1073741824 * (e j + e (24 + j)) else 0 := by
  by_cases hij : i = j
  · subst hij
    have h1 := he i (by omega)
    have h2 := he (24 + i) (by omega)
    rw [if_pos rfl, dotS_2 (a := i) (b := 24 + i) (by omega) (by omega) (by omega)]
    · rw [stY_id hW he hj (by omega), stY_id hW he hj (by omega), if_pos (.inl rfl), if_pos (.inr rfl)]
      simp only [rowF]
      rw [hW _ (by omega), hW _ (by omega), idW_at (by omega), idW_at (by omega), if_pos (.inl rfl), if_pos (.inr rfl), satV_one, satV_id (by omega) (by omega), satV_id (by omega) (by omega), Int.mul_add]
    · intro k hk h1 h2
      right
      rw [stY_id hW he hj hk, if_neg (by omega)]
  · rw [if_neg hij, dotS_no]
    intro k hk
    by_cases h : k = j ∨ k = 24 + j
    · left
      simp only [rowF]
      rw [hW _ (by omega), idW_at hk, if_neg (by omega)]
    · right
      rw [stY_id hW he hj hk, if_neg h]
theorem dotB_id {i j : Nat} (hi : i < 24) (hj : j < 24) : dotB (rowF 48 W i) (stY W e j) 48 = false := by
  refine dotB_no fun k hk => ⟨?_, ?_⟩
  · simp only [rowF]
    rw [hW _ (by omega)]
    exact satH_no (idW_bd _).1 (idW_bd _).2
  · rw [stY_id hW he hj hk]
    have := he k hk
    split
    · exact satH_no (by omega) (by omega)
    · exact satH_0
variable (hs : ∀ j, j < 24 → 1 ≤ e j + e (24 + j) ∧ e j + e (24 + j) ≤ 72057594037927936)
include hs
theorem stD_id {j : Nat} (hj : j < 24) : stD W e j = e j + e (24 + j) ∧ dB W e j = false := by
  have := hs j hj
  have hd : dotV 30 (rowF 48 W j) (stY W e j) 48 = e j + e (24 + j) := by
    unfold dotV
    rw [if_neg (by decide), dot_id hW he hj hj, if_pos rfl, show (30 : Int).toNat = 30 from rfl, rsh_mul, satV_id (by omega) (by omega)]
  constructor
  · unfold stD
    rw [hd]
    unfold varV clampV
    rw [if_neg (by omega), if_neg (by omega), if_neg (by omega)]
  · unfold dB
    rw [hd]
    unfold dotH
    rw [if_neg (by decide), dotB_id hW he hj hj, dot_id hW he hj hj, if_pos rfl, show (30 : Int).toNat = 30 from rfl, rsh_mul, satH_no (by omega) (by omega)]
    unfold varH clampH
    simp; omega
theorem stU_id {i j : Nat} (hi : i < j) (hj : j < 24) : stU W e j i = 0 ∧ uB W e j i = false := by
  have hd : dotV 30 (rowF 48 W i) (stY W e j) 48 = 0 := by
    unfold dotV
    rw [if_neg (by decide), dot_id hW he (by omega) hj, if_neg (by omega), show (30 : Int).toNat = 30 from rfl, rsh_0, satV_0]
  have hD := (stD_id hW he hs hj).1
  have := hs j hj
  constructor
  · unfold stU divV byV
    rw [hd, hD, if_neg (by decide), satV_0, Int.zero_mul, satV_id (by omega) (by omega), if_neg (by omega)]
    rw [rdiv_0 (by omega), satV_0]
  · unfold uB
    rw [hd, hD]
    unfold dotH divH byH
    rw [if_neg (by decide), dotB_id hW he (by omega) hj, dot_id hW he (by omega) hj, if_neg (by omega), show (30 : Int).toNat = 30 from rfl, rsh_0, satV_0, satH_0, Int.zero_mul, satV_id (by omega) (by omega), satH_no (by omega) (by omega)]
    rw [rdiv_0 (by omega), satH_0]
    simp; omega
theorem stage_id {j : Nat} (hj : j < 24) : (∀ x, x < 1152 → elW W e j j 0 x = idW x) ∧ stageH W e j = false := by
  constructor
  · intro x hx
    unfold elW
    split
    · unfold elV
      rw [(stU_id hW he hs (by omega) hj).1, mulV_0, show x / 48 * 48 + x % 48 = x by omega, hW x hx, subV_0 (idW_bd x).1 (idW_bd x).2]
    · exact hW x hx
  · unfold stageH
    rw [(stD_id hW he hs hj).2, orB_no, orB_no]; rfl
    · intro i hi
      unfold rowB
      rw [(stU_id hW he hs hi hj).2, orB_no]; rfl
      intro k hk
      unfold elB
      rw [(stU_id hW he hs hi hj).1, mulV_0, hW _ (by omega), hW _ (by omega), mulH_0 (idW_bd _).1 (idW_bd _).2, subH_0 (idW_bd _).1 (idW_bd _).2]; rfl
    · intro k hk
      unfold yB
      have := he k hk
      rw [hW _ (by omega), idW_at hk]
      split
      · exact mulH_one (by omega) (by omega)
      · exact mulH_0 (by omega) (by omega)
theorem outI_id (O : Nat → Int) {j : Nat} (hj : j < 24) : ∀ m, m ≤ j → ∀ x, x < 300 → outI O W e j m x = if x = 276 + j then e j + e (24 + j) else if j * (j - 1) / 2 ≤ x ∧ x < j * (j - 1) / 2 + m then 0 else O x
  | 0, _, x, hx => by
    simp only [outI, upd]
    rw [(stD_id hW he hs hj).1]
    split
    · rfl
    · rw [if_neg (by omega)]
  | m + 1, hm, x, hx => by
    have ht := tri_le hj
    have hp : pl m j = j * (j - 1) / 2 + m := rfl
    simp only [outI, upd]
    rw [outI_id O hj m (by omega) x hx, (stU_id hW he hs (by omega) hj).1]
    by_cases h1 : x = pl m j
    · rw [if_pos h1, if_neg (by omega), if_pos (by omega)]
    · rw [if_neg h1]
      split
      · rfl
      · split <;> split <;> first | rfl | omega
end
theorem all_id {W e : Nat → Int} (hW : ∀ x, x < 1152 → W x = idW x) (he : ∀ k, k < 48 → 0 ≤ e k ∧ e k ≤ 72057594037927936)
    (hs : ∀ j, j < 24 → 1 ≤ e j + e (24 + j) ∧ e j + e (24 + j) ≤ 72057594037927936) : ∀ n, n ≤ 24 →
    (∀ x, x < 1152 → WN W e n x = idW x) ∧ HN W e n = false ∧ ∀ x, x < 300 → ON W e n x = if 300 - n ≤ x then e (x - 276) + e (24 + (x - 276)) else 0
  | 0, _ => ⟨hW, rfl, fun x hx => by rw [if_neg (by omega)]; rfl⟩
  | n + 1, hn => by
    obtain ⟨h1, h2, h3⟩ := all_id hW he hs n (by omega)
    have ht := tri_le (j := 23 - n) (by omega)
    have hst := stage_id h1 he hs (j := 23 - n) (by omega)
    refine ⟨hst.1, ?_, fun x hx => ?_⟩
    · simp only [HN]; rw [h2, hst.2]; rfl
    · simp only [ON]
      rw [outI_id h1 he hs _ (by omega) _ (Nat.le_refl _) x hx, h3 x hx]
      by_cases hx1 : x = 276 + (23 - n)
      · rw [if_pos hx1, if_pos (by omega), hx1, show 276 + (23 - n) - 276 = 23 - n by omega]
      · rw [if_neg hx1]
        by_cases hx2 : 300 - n ≤ x
        · rw [if_pos hx2, if_neg (by omega), if_pos (by omega)]
        · have hx3 : ¬ 300 - (n + 1) ≤ x := by omega
          rw [if_neg hx2, if_neg hx3]
          split <;> rfl

/-- A covariance of variances alone. -/
def DiagF (f : Nat → Int) : Prop := (∀ x, x < 276 → f x = 0) ∧ ∀ i, i < 24 → 1 ≤ f (276 + i) ∧ f (276 + i) ≤ 72057594037927936
theorem varV_id {a : Int} (h : 1 ≤ a) (h' : a ≤ 72057594037927936) : varV a = a ∧ varH a = false := by
  constructor
  · unfold varV clampV; rw [if_neg (by omega), if_neg (by omega), if_neg (by omega)]
  · unfold varH clampH; simp; omega
theorem qV_id {a : Int} (h : 0 ≤ a) (h' : a ≤ 72057594037927936) : qV a = a ∧ qH a = false := by
  constructor
  · unfold qV clampV; rw [if_neg (by omega), if_neg (by omega), if_neg (by omega)]
  · unfold qH clampH; simp; omega
theorem cond_diag {f : Nat → Int} (h : DiagF f) : (∀ x, x < 300 → condF f x = f x) ∧ condH f = false := by
  constructor
  · intro x hx
    unfold condF
    split
    · rename_i h1; rw [h.1 x h1, satV_0]
    · have := h.2 (x - 276) (by omega)
      rw [show 276 + (x - 276) = x by omega] at this
      exact (varV_id this.1 this.2).1
  · unfold condH
    rw [orB_no, orB_no]; rfl
    · intro i hi; rw [h.1 i hi, satH_0]
    · intro i hi; exact (varV_id (h.2 i hi).1 (h.2 i hi).2).2
theorem oneF_bd (x : Nat) : satV (oneF x) = oneF x ∧ satH (oneF x) = false := by
  unfold oneF; split
  · exact ⟨satV_one, satH_one⟩
  · exact ⟨satV_0, satH_0⟩
theorem fS_one (x : Nat) : fS oneF 24 0 x = oneF x := by
  unfold fS; split
  · exact (oneF_bd x).1
  · rfl
theorem oneF_at {i m : Nat} (hm : m < 24) : oneF (i * 24 + m) = if i = m then 1073741824 else 0 := by
  unfold oneF
  rw [show (i * 24 + m) / 24 = i by omega, show (i * 24 + m) % 24 = m by omega]
theorem colF_diag {f : Nat → Int} (h : ∀ x, x < 276 → f x = 0) {k m : Nat} (hk : k < 24) : colF f k m = if m = k then 1073741824 else 0 := by
  unfold colF uV
  have ht := tri_le hk
  by_cases e : m = k
  · rw [if_pos (by omega), if_pos e, if_pos e]
  · rw [if_neg e, if_neg e]
    split
    · rw [if_pos (by omega)]
      exact h _ (by unfold pl; omega)
    · rfl
theorem rw_diag {f : Nat → Int} (h : ∀ x, x < 276 → f x = 0) {i k : Nat} (hi : i < 24) (hk : k < 24) :
    rwV f (fS oneF 24 0) i k = (if i = k then 1073741824 else 0) ∧ rwB f (fS oneF 24 0) i k = false := by
  have hd : dotS (rowF 24 (fS oneF 24 0) i) (colF f k) 24 = if i = k then 1073741824 * 1073741824 else 0 := by
    by_cases e : i = k
    · subst e
      rw [if_pos rfl, dotS_1 (a := i) hi]
      · simp only [rowF]
        rw [fS_one, oneF_at hi, if_pos rfl, colF_diag h hi, if_pos rfl, satV_one]
      · intro m hm hmi
        left
        simp only [rowF]
        rw [fS_one, oneF_at hm, if_neg (by omega)]
    · rw [if_neg e, dotS_no]
      intro m hm
      by_cases e2 : i = m
      · right; rw [colF_diag h hk, if_neg (by omega)]
      · left; simp only [rowF]; rw [fS_one, oneF_at hm, if_neg e2]
  have hb : dotB (rowF 24 (fS oneF 24 0) i) (colF f k) 24 = false := by
    refine dotB_no fun m hm => ⟨?_, ?_⟩
    · simp only [rowF]; rw [fS_one]; exact (oneF_bd _).2
    · rw [colF_diag h hk]; split; exact satH_one; exact satH_0
  unfold rwV rwB dotV dotH
  rw [if_neg (by decide : ¬ ((30 : Int) < 0 ∨ (120 : Int) < 30)), if_neg (by decide : ¬ ((30 : Int) < 0 ∨ (120 : Int) < 30)), hb, hd, show (30 : Int).toNat = 30 from rfl]
  by_cases e : i = k
  · rw [if_pos e, if_pos e, rsh_mul]; exact ⟨satV_one, by rw [satH_one]; rfl⟩
  · rw [if_neg e, if_neg e, rsh_0]; exact ⟨satV_0, by rw [satH_0]; rfl⟩
theorem step_diag {f q : Nat → Int} (h : DiagF f) (hq : ∀ i, i < 24 → 0 ≤ q i ∧ f (276 + i) + q i ≤ 72057594037927936) :
    (∀ x, x < 300 → stepF f oneF q x = if x < 276 then 0 else f x + q (x - 276)) ∧ stepH f oneF q = false := by
  have hc := cond_diag h
  have hcu : ∀ x, x < 276 → condF f x = 0 := fun x hx => by rw [hc.1 x (by omega), h.1 x hx]
  have hW : ∀ x, x < 1152 → stepW f oneF x = idW x := by
    intro x hx
    unfold stepW rowsW idW
    split
    · rw [(rw_diag hcu (by omega) (by omega)).1]
      split <;> split <;> first | rfl | omega
    · split <;> split <;> first | rfl | omega
  have hE : ∀ k, k < 48 → stepE f q k = if k < 24 then f (276 + k) else q (k - 24) := by
    intro k hk
    unfold stepE eS
    split
    · rw [hc.1 _ (by omega)]
    · rw [if_pos (by omega)]
      have h1 := hq (k - 24) (by omega)
      have h2 := h.2 (k - 24) (by omega)
      exact (qV_id (by omega) (by omega)).1
  have hA := all_id (W := stepW f oneF) (e := stepE f q) hW (fun k hk => by
    rw [hE k hk]
    split
    · have := h.2 k (by omega); omega
    · have h1 := hq (k - 24) (by omega)
      have h2 := h.2 (k - 24) (by omega)
      omega) (fun j hj => by
    rw [hE j (by omega), hE (24 + j) (by omega), if_pos hj, if_neg (by omega), show 24 + j - 24 = j by omega]
    have h1 := hq j hj
    have h2 := h.2 j hj
    omega) 24 (Nat.le_refl _)
  constructor
  · intro x hx
    unfold stepF
    rw [hA.2.2 x hx]
    by_cases e : x < 276
    · rw [if_neg (by omega), if_pos e]
    · rw [if_pos (by omega), if_neg e, hE _ (by omega), hE _ (by omega), if_pos (by omega), if_neg (by omega), show 276 + (x - 276) = x by omega, show 24 + (x - 276) - 24 = x - 276 by omega]
  · unfold stepH
    rw [hc.2, hA.2.1]
    have h1 : loop1H q oneF 24 = false := by
      unfold loop1H
      refine orB_no fun i hi => ?_
      have h1 := hq i hi
      have h2 := h.2 i hi
      rw [(qV_id (a := q i) (by omega) (by omega)).2]
      unfold row1H
      rw [orB_no]; rfl
      intro k hk; exact (oneF_bd _).2
    have h2 : rowsH (condF f) (fS oneF 24 0) = false := by
      unfold rowsH rwH
      refine orB_no fun k hk => orB_no fun i hi => ?_
      exact (rw_diag hcu hi hk).2
    rw [h1, h2]; rfl
end Go.Proofs.Ytokcdlcmamdloaa
/- bierman's plain laws: a row of noughts, turned signs, what is learnt is good. No program. -/
namespace Go.Proofs.Ytokcdlcmamdloaa
theorem orB_congr {p q : Nat → Bool} : ∀ {n : Nat}, (∀ i, i < n → p i = q i) → orB p n = orB q n
  | 0, _ => rfl
  | n + 1, h => by simp only [orB]; rw [orB_congr fun i hi => h i (by omega), h n (by omega)]
theorem orB_false {p : Nat → Bool} : ∀ {n : Nat}, orB p n = false → ∀ i, i < n → p i = false
  | n + 1, h, i, hi => by
    simp only [orB, Bool.or_eq_false_iff] at h
    by_cases e : i = n
    · subst e; exact h.2
    · exact orB_false h.1 i (by omega)
theorem condF_U {f : Nat → Int} {x : Nat} (h : x < 276) : -1152921504606846976 ≤ condF f x ∧ condF f x ≤ 1152921504606846976 := by
  unfold condF; rw [if_pos h]; exact satV_bd _
theorem varV_bd (a : Int) : 1 ≤ varV a ∧ varV a ≤ 72057594037927936 := by
  unfold varV clampV; repeat' split
  all_goals omega
theorem condF_D {f : Nat → Int} {i : Nat} : 1 ≤ condF f (276 + i) ∧ condF f (276 + i) ≤ 72057594037927936 := by
  unfold condF; rw [if_neg (by omega)]; exact varV_bd _
theorem uV_bd {p : Nat → Int} (hp : ∀ x, x < 276 → -1152921504606846976 ≤ p x ∧ p x ≤ 1152921504606846976) {i j : Nat} (hj : j < 24) : -1152921504606846976 ≤ uV p i j ∧ uV p i j ≤ 1152921504606846976 := by
  unfold uV
  split
  · omega
  · split
    · rename_i h; exact hp _ (pl_lt h hj)
    · omega
theorem addV_0l {a : Int} (h1 : -1152921504606846976 ≤ a) (h2 : a ≤ 1152921504606846976) : addV a 0 = a ∧ addH a 0 = false := by
  unfold addV addH
  rw [satV_0, Int.add_zero, satV_id h1 h2, satV_id h1 h2, satH_no h1 h2, satH_0]; exact ⟨rfl, rfl⟩
theorem mulV_z (e : Int) (s : Int) : mulV 0 e s = 0 := by
  unfold mulV
  split
  · rfl
  · rw [satV_0, Int.zero_mul]
    have : rsh 0 s.toNat = 0 := by
      unfold rsh; exact rdiv_0 (Int.ne_of_gt (Int.pow_pos (by decide)))
    rw [this, satV_0]
theorem mulV_comm (a b s : Int) : mulV a b s = mulV b a s := by unfold mulV; rw [Int.mul_comm]
theorem divV_z {b : Int} (hb : satV b ≠ 0) (s : Int) : divV 0 b s = 0 := by
  unfold divV byV
  rw [if_neg hb]
  split
  · rfl
  · rw [satV_0, Int.zero_mul, rdiv_0 hb, satV_0]
theorem rdiv_self_mul {d a : Int} (ha : 0 < a) : rdiv (d * a) a = d := by
  unfold rdiv
  have e : (d * a).natAbs = d.natAbs * a.natAbs := Int.natAbs_mul ..
  have hp : 0 < a.natAbs := by omega
  have e1 : (2 * (d * a).natAbs + a.natAbs) / (2 * a.natAbs) = d.natAbs := by
    rw [e, ← Nat.mul_assoc]
    rw [show 2 * d.natAbs * a.natAbs = d.natAbs * (2 * a.natAbs) by rw [Nat.mul_comm 2, Nat.mul_assoc], Nat.mul_comm d.natAbs]
    rw [Nat.mul_add_div (by omega)]
    rw [Nat.div_eq_of_lt (by omega)]; omega
  rw [e1]
  by_cases hd : 0 ≤ d
  · rw [if_pos (by simp [ha, Int.mul_nonneg hd (Int.le_of_lt ha)])]; omega
  · have : d * a < 0 := Int.mul_neg_of_neg_of_pos (by omega) ha
    rw [if_neg (by simp [ha]; omega)]; omega
section
variable {p : Nat → Int} (hU : ∀ x, x < 276 → -1152921504606846976 ≤ p x ∧ p x ≤ 1152921504606846976) (hD : ∀ i, i < 24 → 1 ≤ p (276 + i) ∧ p (276 + i) ≤ 72057594037927936) {r : Int} (hr : 1 ≤ r ∧ r ≤ 72057594037927936)
theorem dot_zero (s : Int) (B : Nat → Int) (n : Nat) : dotV s (fun _ => 0) B n = 0 := by
  unfold dotV
  split
  · rfl
  · rw [dotS_no fun i _ => .inl rfl]
    have : rsh 0 s.toNat = 0 := by
      unfold rsh; exact rdiv_0 (Int.ne_of_gt (Int.pow_pos (by decide)))
    rw [this, satV_0]
theorem bkF_0 (j : Nat) : bkF p (fun _ => 0) j = 0 := dot_zero _ _ _
theorem bkV_0 (j : Nat) : bkV p (fun _ => 0) j = 0 := by unfold bkV; rw [bkF_0, mulV_comm, mulV_z]
include hr in
theorem bkA_0 : ∀ j, bkA p (fun _ => 0) r j = r
  | 0 => rfl
  | j + 1 => by
    simp only [bkA]
    rw [bkA_0 j, bkF_0, mulV_z]
    exact (addV_0l (by omega) (by omega)).1
theorem upB_0 : ∀ j i, upB p (fun _ => 0) j i = 0
  | 0, _ => rfl
  | j + 1, i => by
    simp only [upB]
    rw [upB_0 j i, bkV_0, mulV_comm, mulV_z]
    split
    · rfl
    · split
      · exact (addV_0l (by omega) (by omega)).1
      · rfl
include hr in
theorem upX_0 (j : Nat) : upX p (fun _ => 0) r j = 0 := by
  unfold upX
  rw [bkF_0, bkA_0 hr, divV_z (by rw [satV_id (by omega) (by omega)]; omega)]; rfl
include hD hr in
theorem upD_0 {j : Nat} (hj : j < 24) : upD p (fun _ => 0) r j = p (276 + j) := by
  have h := hD j hj
  unfold upD mdivV byV
  rw [bkA_0 hr, bkA_0 hr, satV_id (a := r) (by omega) (by omega), if_neg (by omega), satV_id (a := p (276 + j)) (by omega) (by omega), rdiv_self_mul (by omega), satV_id (by omega) (by omega)]
  exact (varV_id h.1 h.2).1
include hU in
theorem upU_0 {j i : Nat} (hj : j < 24) : upU p (fun _ => 0) r j i = uV p i j := by
  unfold upU
  rw [upB_0, mulV_z]
  have := uV_bd hU (i := i) hj
  exact (addV_0l (by omega) (by omega)).1
include hU hD hr in
theorem upOm_0 {O : Nat → Int} (hO : ∀ x, x < 300 → O x = p x) {j : Nat} (hj : j < 24) : ∀ m, m ≤ j → ∀ x, x < 300 → upOm O p (fun _ => 0) r j m x = p x
  | 0, _, x, hx => by
    simp only [upOm, upd]
    split
    · rename_i e; rw [upD_0 hD hr hj, e]
    · exact hO x hx
  | m + 1, hm, x, hx => by
    simp only [upOm, upd]
    split
    · rename_i e
      rw [upU_0 hU hj, e]
      unfold uV
      rw [if_neg (by omega), if_pos (by omega)]
    · exact upOm_0 hO hj m (by omega) x hx
include hU hD hr in
theorem upO_0 : ∀ j, j ≤ 24 → ∀ x, x < 300 → upO p (fun _ => 0) r j x = p x
  | 0, _, _, _ => rfl
  | j + 1, hj, x, hx => by simp only [upO]; exact upOm_0 hU hD hr (upO_0 j (by omega)) (by omega) j (Nat.le_refl _) x hx
end
theorem satS_0 : satS (fun _ => 0) 24 = fun _ => 0 := by funext i; simp [satS, satV_0]
theorem upd_nothing (p : Nat → Int) (r : Int) :
    (∀ x, x < 300 → updP p (fun _ => 0) r x = condF p x) ∧ (∀ i, updG p (fun _ => 0) r i = 0) ∧ updS p (fun _ => 0) r = varV r := by
  have hv := varV_bd r
  refine ⟨fun x hx => ?_, fun i => ?_, ?_⟩
  · unfold updP
    rw [satS_0]
    exact upO_0 (fun x h => condF_U h) (fun i _ => condF_D) hv 24 (Nat.le_refl _) x hx
  · unfold updG upG
    rw [satS_0, upB_0, divV_z (by rw [bkA_0 hv, satV_id (by omega) (by omega)]; omega)]
  · unfold updS
    rw [satS_0, bkA_0 hv]
/-- Turned signs. -/
theorem satV_neg (a : Int) : satV (-a) = -satV a := by
  unfold satV clampV; repeat' split
  all_goals omega
theorem satH_neg (a : Int) : satH (-a) = satH a := by
  unfold satH clampH; rw [Bool.eq_iff_iff]; simp; omega
theorem rdiv_neg1 (a d : Int) : rdiv (-a) d = -rdiv a d := by
  by_cases ha : a = 0
  · subst ha
    by_cases hd : d = 0
    · subst hd; decide
    · rw [Int.neg_zero, rdiv_0 hd]; rfl
  · unfold rdiv
    rw [Int.natAbs_neg]
    generalize (((2 * a.natAbs + d.natAbs) / (2 * d.natAbs) : Nat) : Int) = q
    by_cases h1 : 0 < d
    · by_cases h2 : 0 ≤ a
      · rw [if_neg (by simp [h1]; omega), if_pos (by simp [h1]; omega)]
      · rw [if_pos (by simp [h1]; omega), if_neg (by simp [h1]; omega)]; omega
    · by_cases h2 : 0 ≤ a
      · rw [if_pos (by simp [h1]; omega), if_neg (by simp [h1]; omega)]; omega
      · rw [if_neg (by simp [h1]; omega), if_pos (by simp [h1]; omega)]
theorem rsh_neg1 (a : Int) (s : Nat) : rsh (-a) s = -rsh a s := rdiv_neg1 _ _
theorem mulV_negl (a b s : Int) : mulV (-a) b s = -mulV a b s := by
  unfold mulV
  split
  · rfl
  · rw [satV_neg, Int.neg_mul, rsh_neg1, satV_neg]
theorem mulV_negr (a b s : Int) : mulV a (-b) s = -mulV a b s := by rw [mulV_comm, mulV_negl, mulV_comm]
theorem mulH_negl (a b s : Int) : mulH (-a) b s = mulH a b s := by
  unfold mulH
  rw [satH_neg, satV_neg, Int.neg_mul, rsh_neg1, satH_neg]
theorem mulH_comm (a b s : Int) : mulH a b s = mulH b a s := by
  unfold mulH; rw [Int.mul_comm, Bool.or_comm (satH a)]
theorem mulH_negr (a b s : Int) : mulH a (-b) s = mulH a b s := by rw [mulH_comm, mulH_negl, mulH_comm]
theorem byV_neg (x d : Int) : byV (-x) d = -byV x d := by
  unfold byV
  split
  · by_cases h : x = 0
    · simp [h]
    · rw [if_neg (by omega), if_neg h]
      by_cases h2 : x < 0
      · rw [if_neg (by omega), if_pos h2]; rfl
      · rw [if_pos (by omega), if_neg h2]
  · rw [rdiv_neg1, satV_neg]
theorem byH_neg (x d : Int) : byH (-x) d = byH x d := by
  unfold byH; rw [rdiv_neg1, satH_neg]
theorem divV_neg (a b s : Int) : divV (-a) b s = -divV a b s := by
  unfold divV
  split
  · rfl
  · rw [satV_neg, Int.neg_mul, byV_neg]
theorem divH_neg (a b s : Int) : divH (-a) b s = divH a b s := by
  unfold divH; rw [satV_neg, satH_neg, Int.neg_mul, byH_neg]
theorem addV_neg (a b : Int) : addV (-a) (-b) = -addV a b := by
  unfold addV
  rw [satV_neg, satV_neg, ← Int.neg_add, satV_neg]
theorem addH_neg (a b : Int) : addH (-a) (-b) = addH a b := by
  unfold addH
  rw [satV_neg, satV_neg, satH_neg, satH_neg, ← Int.neg_add, satH_neg]
theorem dotS_neg (A B : Nat → Int) : ∀ n, dotS (fun i => -A i) B n = -dotS A B n
  | 0 => rfl
  | n + 1 => by simp only [dotS]; rw [dotS_neg A B n, satV_neg, Int.neg_mul]; omega
theorem dotB_neg (A B : Nat → Int) : ∀ n, dotB (fun i => -A i) B n = dotB A B n
  | 0 => rfl
  | n + 1 => by simp only [dotB]; rw [dotB_neg A B n, satH_neg]
theorem dotV_neg (s : Int) (A B : Nat → Int) (n : Nat) : dotV s (fun i => -A i) B n = -dotV s A B n := by
  unfold dotV
  split
  · rfl
  · rw [dotS_neg, rsh_neg1, satV_neg]
theorem dotH_neg (s : Int) (A B : Nat → Int) (n : Nat) : dotH s (fun i => -A i) B n = dotH s A B n := by
  unfold dotH
  split
  · rfl
  · rw [dotS_neg, dotB_neg, rsh_neg1, satH_neg]
section
variable (p h : Nat → Int) (r : Int)
theorem bkF_neg (j : Nat) : bkF p (fun i => -h i) j = -bkF p h j := dotV_neg _ _ _ _
theorem bkV_neg (j : Nat) : bkV p (fun i => -h i) j = -bkV p h j := by unfold bkV; rw [bkF_neg, mulV_negr]
theorem bkA_neg : ∀ j, bkA p (fun i => -h i) r j = bkA p h r j
  | 0 => rfl
  | j + 1 => by
    simp only [bkA]
    rw [bkA_neg j, bkF_neg, bkV_neg, mulV_negl, mulV_negr, Int.neg_neg]
theorem bkS_neg (j : Nat) : bkS p (fun i => -h i) r j = bkS p h r j := by
  unfold bkS bkFH bkVH bkAH
  rw [dotH_neg, bkF_neg, bkV_neg, bkA_neg, mulH_negr, mulH_negl, mulH_negr, mulV_negl, mulV_negr, Int.neg_neg]
theorem upB_neg : ∀ j i, upB p (fun i => -h i) j i = -upB p h j i
  | 0, _ => rfl
  | j + 1, i => by
    simp only [upB]
    rw [upB_neg j i, bkV_neg]
    split
    · rfl
    · split
      · rw [mulV_negr, addV_neg]
      · rfl
theorem upX_neg (j : Nat) : upX p (fun i => -h i) r j = -upX p h r j := by
  unfold upX; rw [bkF_neg, bkA_neg, divV_neg]
theorem upD_neg (j : Nat) : upD p (fun i => -h i) r j = upD p h r j := by unfold upD; rw [bkA_neg, bkA_neg]
theorem upU_neg (j i : Nat) : upU p (fun i => -h i) r j i = upU p h r j i := by
  unfold upU; rw [upB_neg, upX_neg, mulV_negl, mulV_negr, Int.neg_neg]
theorem upOm_neg (O : Nat → Int) (j : Nat) : ∀ m, upOm O p (fun i => -h i) r j m = upOm O p h r j m
  | 0 => by simp only [upOm]; rw [upD_neg]
  | m + 1 => by simp only [upOm]; rw [upOm_neg O j m, upU_neg]
theorem upO_neg : ∀ j, upO p (fun i => -h i) r j = upO p h r j
  | 0 => rfl
  | j + 1 => by simp only [upO]; rw [upO_neg j, upOm_neg]
theorem upCH_neg (j : Nat) : upCH p (fun i => -h i) r j = upCH p h r j := by
  unfold upCH upDH upXH
  rw [bkA_neg, bkA_neg, bkF_neg, divH_neg, orB_congr (q := upRH p h r j)]
  intro i _
  unfold upRH upUH upBH
  rw [upB_neg, upX_neg, bkV_neg, mulV_negl, mulV_negr, Int.neg_neg, mulH_negl, mulH_negr, mulH_negr, mulV_negr, addH_neg]
end
theorem satS_neg (h : Nat → Int) : satS (fun i => -h i) 24 = fun i => -satS h 24 i := by
  funext i; unfold satS; split
  · exact satV_neg _
  · rfl
theorem upd_sign (p h : Nat → Int) (r : Int) : updP p (fun i => -h i) r = updP p h r ∧ (∀ i, updG p (fun i => -h i) r i = -updG p h r i) ∧ updS p (fun i => -h i) r = updS p h r ∧ updH p (fun i => -h i) r = updH p h r := by
  refine ⟨?_, fun i => ?_, ?_, ?_⟩
  · unfold updP; rw [satS_neg, upO_neg]
  · unfold updG upG; rw [satS_neg, upB_neg, bkA_neg, divV_neg]
  · unfold updS; rw [satS_neg, bkA_neg]
  · unfold updH lkH
    rw [satS_neg, orB_congr (p := fun i => satH (-h i)) (q := fun i => satH (h i)) fun i _ => satH_neg _, orB_congr fun j _ => bkS_neg _ _ _ j, orB_congr (p := upCH _ (fun i => -satS h 24 i) _) fun j _ => upCH_neg _ _ _ j]
    rw [orB_congr (p := upGH _ (fun i => -satS h 24 i) _) (q := upGH (condF p) (satS h 24) (varV r))]
    intro i _
    unfold upGH; rw [upB_neg, bkA_neg, divH_neg]
/-- What is learnt is good, and no D is greater. -/
theorem rdiv_le {x d m : Int} (hd : 0 < d) (h : x ≤ m * d) (hm : 0 ≤ m) : rdiv x d ≤ m := by
  unfold rdiv
  by_cases hx : 0 ≤ x
  · rw [if_pos (by simp [hx, hd])]
    have : (2 * x.natAbs + d.natAbs) / (2 * d.natAbs) < m.natAbs + 1 := by
      apply Nat.div_lt_of_lt_mul
      have e : (x.natAbs : Int) ≤ (m.natAbs * d.natAbs : Nat) := by rw [Int.natCast_mul, Int.natAbs_of_nonneg hm, Int.natAbs_of_nonneg (Int.le_of_lt hd), Int.natAbs_of_nonneg hx]; exact h
      have e2 : x.natAbs ≤ m.natAbs * d.natAbs := by omega
      have e3 : 2 * d.natAbs * (m.natAbs + 1) = 2 * (m.natAbs * d.natAbs) + 2 * d.natAbs := by
        rw [Nat.mul_add, Nat.mul_one, Nat.mul_assoc, Nat.mul_comm d.natAbs]
      have : 0 < d.natAbs := by omega
      rw [e3]
      generalize m.natAbs * d.natAbs = k at *
      omega
    omega
  · rw [if_neg (by simp [hx, hd])]
    have : (0 : Int) ≤ (((2 * x.natAbs + d.natAbs) / (2 * d.natAbs) : Nat) : Int) := Int.natCast_nonneg _
    omega
theorem rdiv_nonneg {x d : Int} (hx : 0 ≤ x) (hd : 0 < d) : 0 ≤ rdiv x d := by
  unfold rdiv
  rw [if_pos (by simp [hx, hd])]; exact Int.natCast_nonneg _
theorem rdiv_nonpos {x d : Int} (hx : x ≤ 0) (hd : 0 < d) : rdiv x d ≤ 0 := by
  have := rdiv_nonneg (x := -x) (by omega) hd
  rw [rdiv_neg1] at this; omega
theorem satV_nonneg {a : Int} (h : 0 ≤ a) : 0 ≤ satV a := by
  unfold satV clampV; repeat' split
  all_goals omega
theorem satV_nonpos {a : Int} (h : a ≤ 0) : satV a ≤ 0 := by
  unfold satV clampV; repeat' split
  all_goals omega
theorem satV_le {a m : Int} (h : a ≤ m) (hm : -1152921504606846976 ≤ m) : satV a ≤ m := by
  unfold satV clampV; repeat' split
  all_goals omega
theorem mulV_sign {a b s : Int} : (0 ≤ a → 0 ≤ b → 0 ≤ mulV a b s) ∧ (a ≤ 0 → b ≤ 0 → 0 ≤ mulV a b s) ∧ (0 ≤ a → b ≤ 0 → mulV a b s ≤ 0) := by
  have hp : ∀ s : Nat, (0 : Int) < 2 ^ s := fun s => Int.pow_pos (by decide)
  refine ⟨fun h1 h2 => ?_, fun h1 h2 => ?_, fun h1 h2 => ?_⟩ <;> unfold mulV <;> split
  · omega
  · exact satV_nonneg (rdiv_nonneg (Int.mul_nonneg (satV_nonneg h1) (satV_nonneg h2)) (hp _))
  · omega
  · exact satV_nonneg (rdiv_nonneg (Int.mul_nonneg_of_nonpos_of_nonpos (satV_nonpos h1) (satV_nonpos h2)) (hp _))
  · omega
  · exact satV_nonpos (rdiv_nonpos (Int.mul_nonpos_of_nonneg_of_nonpos (satV_nonneg h1) (satV_nonpos h2)) (hp _))
section
variable {p h : Nat → Int} {r : Int} (hD : ∀ i, i < 24 → 1 ≤ p (276 + i) ∧ p (276 + i) ≤ 72057594037927936) (hr : 1 ≤ r ∧ r ≤ 72057594037927936)
include hD
theorem fv_nonneg {j : Nat} (hj : j < 24) : 0 ≤ mulV (bkF p h j) (bkV p h j) 30 := by
  have h1 := hD j hj
  unfold bkV
  rcases Int.le_total 0 (bkF p h j) with h2 | h2
  · exact mulV_sign.1 h2 (mulV_sign.1 (by omega) h2)
  · exact mulV_sign.2.1 h2 (mulV_sign.2.2 (by omega) h2)
include hr
theorem bkA_bd : ∀ j, j ≤ 24 → r ≤ bkA p h r j ∧ bkA p h r j ≤ 1152921504606846976
  | 0, _ => by simp only [bkA]; omega
  | j + 1, hj => by
    have h1 := bkA_bd j (by omega)
    have h2 := fv_nonneg (p := p) (h := h) hD (j := j) (by omega)
    simp only [bkA]
    unfold addV
    have h3 := satV_nonneg h2
    rw [satV_id (a := bkA p h r j) (by omega) (by omega)]
    refine ⟨?_, (satV_bd _).2⟩
    generalize satV (mulV (bkF p h j) (bkV p h j) 30) = y at *
    unfold satV clampV; repeat' split
    all_goals omega
theorem bkA_up {j : Nat} (hj : j < 24) : bkA p h r j ≤ bkA p h r (j + 1) := by
  have h1 := bkA_bd (h := h) hD hr j (by omega)
  have h2 := fv_nonneg (p := p) (h := h) hD hj
  simp only [bkA]
  unfold addV
  have h3 := satV_nonneg h2
  rw [satV_id (a := bkA p h r j) (by omega) (by omega)]
  generalize satV (mulV (bkF p h j) (bkV p h j) 30) = y at *
  unfold satV clampV; repeat' split
  all_goals omega
theorem upD_le {j : Nat} (hj : j < 24) : upD p h r j ≤ p (276 + j) := by
  have h0 := hD j hj
  have h1 := bkA_bd (h := h) hD hr j (by omega)
  have h2 := bkA_bd (h := h) hD hr (j + 1) (by omega)
  have h3 := bkA_up (h := h) hD hr hj
  unfold upD mdivV byV
  rw [satV_id (a := bkA p h r j) (by omega) (by omega), satV_id (a := bkA p h r (j + 1)) (by omega) (by omega), satV_id (a := p (276 + j)) (by omega) (by omega), if_neg (by omega)]
  have : rdiv (p (276 + j) * bkA p h r j) (bkA p h r (j + 1)) ≤ p (276 + j) := rdiv_le (by omega) (Int.mul_le_mul_of_nonneg_left h3 (by omega)) (by omega)
  have := satV_le this (by omega)
  unfold varV clampV; repeat' split
  all_goals omega
end
theorem upOm_at {O p h : Nat → Int} {r : Int} {j : Nat} (hj : j < 24) : ∀ m, m ≤ j → (∀ i, i < 24 → i ≠ j → upOm O p h r j m (276 + i) = O (276 + i)) ∧ upOm O p h r j m (276 + j) = upD p h r j ∧
    ∀ x, x < 276 → (-1152921504606846976 ≤ O x ∧ O x ≤ 1152921504606846976) → -1152921504606846976 ≤ upOm O p h r j m x ∧ upOm O p h r j m x ≤ 1152921504606846976
  | 0, _ => by
    refine ⟨fun i hi hne => ?_, ?_, fun x hx hO => ?_⟩
    · simp only [upOm, upd]; rw [if_neg (by omega)]
    · simp only [upOm, upd, if_true]
    · simp only [upOm, upd]; rw [if_neg (by omega)]; exact hO
  | m + 1, hm => by
    obtain ⟨h1, h2, h3⟩ := upOm_at (O := O) (p := p) (h := h) (r := r) hj m (by omega)
    have hp := pl_lt (i := m) (j := j) (by omega) hj
    refine ⟨fun i hi hne => ?_, ?_, fun x hx hO => ?_⟩
    · simp only [upOm, upd]; rw [if_neg (by omega)]; exact h1 i hi hne
    · simp only [upOm, upd]; rw [if_neg (by omega)]; exact h2
    · simp only [upOm, upd]; split
      · unfold upU addV; exact satV_bd _
      · exact h3 x hx hO
theorem upO_at {p h : Nat → Int} {r : Int} (hU : ∀ x, x < 276 → -1152921504606846976 ≤ p x ∧ p x ≤ 1152921504606846976) : ∀ j, j ≤ 24 →
    (∀ i, i < 24 → upO p h r j (276 + i) = if i < j then upD p h r i else p (276 + i)) ∧ ∀ x, x < 276 → -1152921504606846976 ≤ upO p h r j x ∧ upO p h r j x ≤ 1152921504606846976
  | 0, _ => ⟨fun i _ => by rw [if_neg (by omega)]; rfl, hU⟩
  | j + 1, hj => by
    obtain ⟨h1, h2⟩ := upO_at (p := p) (h := h) (r := r) hU j (by omega)
    obtain ⟨g1, g2, g3⟩ := upOm_at (O := upO p h r j) (p := p) (h := h) (r := r) (show j < 24 by omega) j (Nat.le_refl _)
    refine ⟨fun i hi => ?_, fun x hx => by simp only [upO]; exact g3 x hx (h2 x hx)⟩
    simp only [upO]
    by_cases e : i = j
    · subst e; rw [g2, if_pos (by omega)]
    · rw [g1 i hi e, h1 i hi]
      split <;> split <;> first | rfl | omega
/-- Learning: the answer is good; no D is greater than it was; what is measured has at least its own variance. -/
theorem upd_learns (p h : Nat → Int) (r : Int) : condH (updP p h r) = false ∧ (∀ i, i < 24 → updP p h r (276 + i) ≤ condF p (276 + i)) ∧ varV r ≤ updS p h r := by
  have hv := varV_bd r
  have hD : ∀ i, i < 24 → 1 ≤ condF p (276 + i) ∧ condF p (276 + i) ≤ 72057594037927936 := fun i _ => condF_D
  obtain ⟨h1, h2⟩ := upO_at (h := satS h 24) (r := varV r) (fun x hx => condF_U (f := p) hx) 24 (Nat.le_refl _)
  refine ⟨?_, fun i hi => ?_, (bkA_bd hD hv 24 (Nat.le_refl _)).1⟩
  · unfold condH
    rw [orB_no, orB_no]; rfl
    · intro i hi; exact satH_no (h2 i hi).1 (h2 i hi).2
    · intro i hi
      unfold updP
      rw [h1 i hi, if_pos hi]
      unfold upD
      have := varV_bd (mdivV (condF p (276 + i)) (bkA (condF p) (satS h 24) (varV r) i) (bkA (condF p) (satS h 24) (varV r) (i + 1)))
      exact (varV_id this.1 this.2).2
  · unfold updP
    rw [h1 i hi, if_pos hi]
    exact upD_le hD hv hi
/-- What is good stays as it is. -/
theorem cond_good {f : Nat → Int} (h : condH f = false) : ∀ x, x < 300 → condF f x = f x := by
  intro x hx
  unfold condH at h
  rw [Bool.or_eq_false_iff] at h
  unfold condF
  split
  · rename_i h1
    have := orB_false h.2 x h1
    simp only [satH, clampH] at this
    simp at this
    exact satV_id (by omega) (by omega)
  · rename_i h1
    have := orB_false h.1 (x - 276) (by omega)
    simp only [varH, clampH, show 276 + (x - 276) = x by omega] at this
    simp at this
    exact (varV_id (by omega) (by omega)).1
end Go.Proofs.Ytokcdlcmamdloaa
/- bierman's plain laws (2): one state by itself, and the flags of a row of noughts. No program. -/
namespace Go.Proofs.Ytokcdlcmamdloaa
/-- One at the state k. -/
def pkF (k : Nat) : Nat → Int := fun i => if i = k then 1073741824 else 0
theorem satS_pk (k : Nat) : satS (pkF k) 24 = pkF k := by
  funext i; unfold satS pkF
  split
  · split
    · exact satV_one
    · exact satV_0
  · rfl
theorem addH_of {a b : Int} (h1 : -1152921504606846976 ≤ a) (h2 : a ≤ 1152921504606846976) (h3 : -1152921504606846976 ≤ b) (h4 : b ≤ 1152921504606846976) (h5 : -1152921504606846976 ≤ a + b) (h6 : a + b ≤ 1152921504606846976) :
    addV a b = a + b ∧ addH a b = false := by
  unfold addV addH
  rw [satV_id h1 h2, satV_id h3 h4, satV_id h5 h6, satH_no h1 h2, satH_no h3 h4, satH_no h5 h6]; exact ⟨rfl, rfl⟩
theorem mulH_z {e : Int} (h1 : -1152921504606846976 ≤ e) (h2 : e ≤ 1152921504606846976) {s : Int} (s0 : 0 ≤ s) (s1 : s ≤ 120) : mulH 0 e s = false := by
  unfold mulH
  have : rsh (satV 0 * satV e) s.toNat = 0 := by
    rw [satV_0, Int.zero_mul]; unfold rsh; exact rdiv_0 (Int.ne_of_gt (Int.pow_pos (by decide)))
  rw [this, satH_0, satH_no h1 h2]; simp; omega
theorem divH_z {b : Int} (h1 : 1 ≤ b) (h2 : b ≤ 1152921504606846976) {s : Int} (s0 : 0 ≤ s) (s1 : s ≤ 66) : divH 0 b s = false := by
  unfold divH byH
  rw [satV_0, Int.zero_mul, satH_0, satV_id (by omega) h2, rdiv_0 (by omega), satH_0, satH_no (by omega) h2]; simp; omega
theorem dotH_z {B : Nat → Int} {n : Nat} (hB : ∀ i, i < n → satH (B i) = false) : dotH 30 (fun _ => 0) B n = false := by
  unfold dotH
  rw [if_neg (by decide), dotB_no fun i hi => ⟨satH_0, hB i hi⟩, dotS_no fun i _ => .inl rfl, show (30 : Int).toNat = 30 from rfl, rsh_0, satH_0]; rfl
theorem colF_bd {p : Nat → Int} (hU : ∀ x, x < 276 → -1152921504606846976 ≤ p x ∧ p x ≤ 1152921504606846976) {j : Nat} (hj : j < 24) (m : Nat) : satH (colF p j m) = false := by
  unfold colF
  split
  · have := uV_bd hU (i := m) hj; exact satH_no this.1 this.2
  · exact satH_0
theorem updH_nothing (p : Nat → Int) (r : Int) : updH p (fun _ => 0) r = (condH p || varH r) ∧ lkH p (fun _ => 0) r = (condH p || varH r) := by
  have hv := varV_bd r
  have hU : ∀ x, x < 276 → -1152921504606846976 ≤ condF p x ∧ condF p x ≤ 1152921504606846976 := fun x h => condF_U h
  have hD : ∀ i, i < 24 → 1 ≤ condF p (276 + i) ∧ condF p (276 + i) ≤ 72057594037927936 := fun i _ => condF_D
  have e1 : lkH p (fun _ => 0) r = (condH p || varH r) := by
    unfold lkH
    rw [satS_0, orB_no (p := fun i => satH 0) fun i _ => satH_0, orB_no (p := bkS _ _ _)]
    · simp
    · intro j hj
      have := hD j hj
      unfold bkS bkFH bkVH bkAH
      rw [dotH_z fun i _ => colF_bd hU hj i, bkF_0, bkV_0, mulH_comm, mulH_z (by omega) (by omega) (by decide) (by decide), mulH_z (by omega) (by omega) (by decide) (by decide), mulV_z, bkA_0 hv, (addV_0l (by omega) (by omega)).2]; rfl
  refine ⟨?_, e1⟩
  unfold updH
  rw [e1, satS_0, orB_no (p := upCH _ _ _), orB_no (p := upGH _ _ _)]
  · simp
  · intro i hi
    unfold upGH
    rw [upB_0, bkA_0 hv]
    exact divH_z (by omega) (by omega) (by decide) (by decide)
  · intro j hj
    have h := hD j hj
    unfold upCH upDH upXH
    rw [bkA_0 hv, bkA_0 hv, bkF_0, divH_z (by omega) (by omega) (by decide) (by decide), orB_no]
    · unfold mdivV mdivH byV byH
      rw [satV_id (a := varV r) (by omega) (by omega), if_neg (by omega), satV_id (a := condF p (276 + j)) (by omega) (by omega), rdiv_self_mul (by omega), satV_id (by omega) (by omega), satH_no (by omega) (by omega), satH_no (by omega) (by omega), (varV_id h.1 h.2).2]
      simp; omega
    · intro i hi
      have hu := uV_bd hU (i := i) hj
      unfold upRH upUH upBH
      rw [upB_0, mulV_z, upX_0 hv, bkV_0, mulH_z (by omega) (by omega) (by decide) (by decide), (addV_0l hu.1 hu.2).2, mulH_comm, mulH_z hu.1 hu.2 (by decide) (by decide), mulV_comm, mulV_z, (addV_0l (by omega) (by omega)).2]; rfl
section
variable {p : Nat → Int} (hp : DiagF p) {k : Nat} (hk : k < 24) {r : Int} (hr : 1 ≤ r ∧ r ≤ 72057594037927936) (hd : p (276 + k) ≤ 72057594037927936)
theorem colF_d1 (hp : DiagF p) {j : Nat} (hj : j < 24) : colF p j = fun m => if m = j then 1073741824 else 0 := by
  funext m; exact colF_diag hp.1 hj
include hp in
theorem bkF_1 {j : Nat} (hj : j < 24) : bkF p (pkF k) j = (if j = k then 1073741824 else 0) ∧ bkFH p (pkF k) j = false := by
  have hb : dotB (pkF k) (colF p j) (j + 1) = false := by
    refine dotB_no fun i hi => ⟨?_, ?_⟩
    · unfold pkF; split; exact satH_one; exact satH_0
    · rw [colF_diag hp.1 hj]; split; exact satH_one; exact satH_0
  have hs : dotS (pkF k) (colF p j) (j + 1) = if j = k then 1073741824 * 1073741824 else 0 := by
    rw [dotS_1 (a := j) (by omega)]
    · rw [colF_diag hp.1 hj, if_pos rfl]
      unfold pkF
      split
      · rw [satV_one]
      · rw [satV_0, Int.zero_mul]
    · intro i hi hne
      right; rw [colF_diag hp.1 hj, if_neg hne]
  unfold bkF bkFH dotV dotH
  rw [if_neg (by decide : ¬ ((30 : Int) < 0 ∨ (120 : Int) < 30)), if_neg (by decide : ¬ ((30 : Int) < 0 ∨ (120 : Int) < 30)), hb, hs, show (30 : Int).toNat = 30 from rfl]
  split
  · rw [rsh_mul]; exact ⟨satV_one, by rw [satH_one]; rfl⟩
  · rw [rsh_0]; exact ⟨satV_0, by rw [satH_0]; rfl⟩
include hp in
theorem bkV_1 {j : Nat} (hj : j < 24) : bkV p (pkF k) j = (if j = k then p (276 + k) else 0) ∧ bkVH p (pkF k) j = false := by
  have h := hp.2 j hj
  unfold bkV bkVH
  rw [(bkF_1 hp hj).1]
  split
  · rename_i e
    subst e
    rw [mulV_comm, mulH_comm]
    exact ⟨mulV_one (by omega) (by omega), mulH_one (by omega) (by omega)⟩
  · rw [mulV_comm, mulH_comm]
    exact ⟨mulV_z _ _, mulH_z (by omega) (by omega) (by decide) (by decide)⟩
include hp hr hd hk in
theorem bkA_1 : ∀ j, j ≤ 24 → bkA p (pkF k) r j = if k < j then r + p (276 + k) else r
  | 0, _ => by simp [bkA]
  | j + 1, hj => by
    have hj' : j < 24 := by omega
    have h := hp.2 k hk
    simp only [bkA]
    rw [bkA_1 j (by omega), (bkF_1 hp hj').1, (bkV_1 hp hj').1]
    by_cases e : j = k
    · subst e
      rw [if_pos rfl, if_pos rfl, if_neg (by omega), if_pos (by omega), mulV_one (by omega) (by omega)]
      exact (addH_of (by omega) (by omega) (by omega) (by omega) (by omega) (by omega)).1
    · rw [if_neg e, mulV_z]
      split
      · rw [if_pos (by omega)]; exact (addV_0l (by omega) (by omega)).1
      · rw [if_neg (by omega)]; exact (addV_0l (by omega) (by omega)).1
include hp hr hd hk in
theorem bkS_1 {j : Nat} (hj : j < 24) : bkS p (pkF k) r j = false := by
  have h := hp.2 k hk
  unfold bkS bkAH
  rw [(bkF_1 hp hj).2, (bkV_1 hp hj).2, (bkF_1 hp hj).1, (bkV_1 hp hj).1, bkA_1 hp hk hr hd j (by omega)]
  by_cases e : j = k
  · rw [if_pos e, if_pos e, if_neg (by omega), mulH_one (by omega) (by omega), mulV_one (by omega) (by omega), (addH_of (by omega) (by omega) (by omega) (by omega) (by omega) (by omega)).2]; rfl
  · rw [if_neg e, if_neg e, mulH_z (by omega) (by omega) (by decide) (by decide), mulV_z]
    split
    · rw [(addV_0l (by omega) (by omega)).2]; rfl
    · rw [(addV_0l (by omega) (by omega)).2]; rfl
include hp in
theorem upB_1 : ∀ j, j ≤ 24 → ∀ i, i < 24 → upB p (pkF k) j i = if k < j ∧ i = k then p (276 + k) else 0
  | 0, _, i, _ => by simp [upB]
  | j + 1, hj, i, hi => by
    have hu : ∀ i, i < j → uV p i j = 0 := fun i hij => by
      unfold uV; rw [if_neg (by omega), if_pos hij]; exact hp.1 _ (pl_lt hij (by omega))
    have hB := upB_1 j (by omega) i hi
    simp only [upB]
    rw [hB, (bkV_1 hp (by omega)).1]
    by_cases e : i = j
    · rw [if_pos e]
      split <;> split <;> first | rfl | omega
    · rw [if_neg e]
      by_cases e2 : i < j
      · rw [if_pos e2, hu i e2, mulV_z]
        split
        · have := hp.2 k (by omega)
          rw [if_pos (by omega)]; exact (addV_0l (by omega) (by omega)).1
        · rw [if_neg (by omega)]; exact (addV_0l (by omega) (by omega)).1
      · rw [if_neg e2]
        split <;> split <;> first | rfl | omega
include hp hr hd hk in
theorem upDone {j : Nat} (hj : j < 24) : upD p (pkF k) r j = (if j = k then mdivV (p (276 + k)) r (p (276 + k) + r) else p (276 + j)) ∧ upDH p (pkF k) r j = false := by
  have h := hp.2 j hj
  have hk2 := hp.2 k hk
  have hA := bkA_1 hp hk hr hd j (by omega)
  have hA1 := bkA_1 hp hk hr hd (j + 1) (by omega)
  by_cases e : j = k
  · subst e
    rw [if_neg (by omega)] at hA
    rw [if_pos (by omega)] at hA1
    have hs : satV (p (276 + j) + r) = p (276 + j) + r := satV_id (by omega) (by omega)
    have hx : 0 ≤ rdiv (p (276 + j) * r) (p (276 + j) + r) := rdiv_nonneg (Int.mul_nonneg (by omega) (by omega)) (by omega)
    have hy : rdiv (p (276 + j) * r) (p (276 + j) + r) ≤ p (276 + j) := rdiv_le (by omega) (Int.mul_le_mul_of_nonneg_left (by omega) (by omega)) (by omega)
    have hz : 1 ≤ rdiv (p (276 + j) * r) (p (276 + j) + r) := by
      unfold rdiv
      rw [if_pos (by simp [Int.mul_nonneg (show 0 ≤ p (276 + j) by omega) (show 0 ≤ r by omega)]; omega)]
      have : 1 ≤ (2 * (p (276 + j) * r).natAbs + (p (276 + j) + r).natAbs) / (2 * (p (276 + j) + r).natAbs) := by
        rw [Nat.le_div_iff_mul_le (by omega), Nat.one_mul]
        have h2 : (p (276 + j) + r).natAbs ≤ 2 * (p (276 + j) * r).natAbs := by
          rw [Int.natAbs_mul]
          have a1 : 1 ≤ (p (276 + j)).natAbs := by omega
          have a2 : 1 ≤ r.natAbs := by omega
          have e1 : (p (276 + j)).natAbs ≤ (p (276 + j)).natAbs * r.natAbs := Nat.le_mul_of_pos_right _ a2
          have e2 : r.natAbs ≤ (p (276 + j)).natAbs * r.natAbs := Nat.le_mul_of_pos_left _ a1
          omega
        omega
      omega
    have hm : mdivV (p (276 + j)) r (p (276 + j) + r) = rdiv (p (276 + j) * r) (p (276 + j) + r) := by
      unfold mdivV byV
      rw [hs, satV_id (a := p (276 + j)) (by omega) (by omega), satV_id (a := r) (by omega) (by omega), if_neg (by omega), satV_id (by omega) (by omega)]
    unfold upD upDH
    rw [hA, hA1, Int.add_comm r, if_pos rfl, hm, (varV_id hz (by omega)).1, (varV_id hz (by omega)).2]
    refine ⟨rfl, ?_⟩
    unfold mdivH byH
    rw [hs, satV_id (a := p (276 + j)) (by omega) (by omega), satV_id (a := r) (by omega) (by omega), satH_no (a := p (276 + j)) (by omega) (by omega), satH_no (a := r) (by omega) (by omega), satH_no (a := p (276 + j) + r) (by omega) (by omega), satH_no (by omega) (by omega)]
    simp; omega
  · have hAA : bkA p (pkF k) r (j + 1) = bkA p (pkF k) r j := by
      rw [hA, hA1]
      split <;> split <;> first | rfl | omega
    have hb : 1 ≤ bkA p (pkF k) r j ∧ bkA p (pkF k) r j ≤ 1152921504606846976 := by
      rw [hA]; split <;> omega
    unfold upD upDH mdivV mdivH byV byH
    rw [hAA, satV_id (a := bkA p (pkF k) r j) (by omega) (by omega), if_neg (by omega), satV_id (a := p (276 + j)) (by omega) (by omega), rdiv_self_mul (by omega), satV_id (by omega) (by omega), if_neg e, satH_no (a := p (276 + j)) (by omega) (by omega), satH_no (a := bkA p (pkF k) r j) (by omega) hb.2, (varV_id h.1 h.2).1, (varV_id h.1 h.2).2]
    refine ⟨rfl, ?_⟩
    simp; omega
include hp hr hd hk in
theorem upX_1 {j : Nat} (hj : j < 24) (hne : j ≠ k) : upX p (pkF k) r j = 0 ∧ upXH p (pkF k) r j = false := by
  have hA := bkA_1 hp hk hr hd j (by omega)
  have h := hp.2 k hk
  have hb : 1 ≤ bkA p (pkF k) r j ∧ bkA p (pkF k) r j ≤ 1152921504606846976 := by rw [hA]; split <;> omega
  unfold upX upXH
  rw [(bkF_1 hp hj).1, if_neg hne, divV_z (by rw [satV_id (by omega) hb.2]; omega), divH_z hb.1 hb.2 (by decide) (by decide)]
  exact ⟨rfl, rfl⟩
theorem satH_satV (a : Int) : satH (satV a) = false := satH_no (satV_bd a).1 (satV_bd a).2
theorem byV_bd (x d : Int) : -1152921504606846976 ≤ byV x d ∧ byV x d ≤ 1152921504606846976 := by
  unfold byV; split
  · split
    · omega
    · split <;> omega
  · exact satV_bd _
theorem divV_bd (a b s : Int) : -1152921504606846976 ≤ divV a b s ∧ divV a b s ≤ 1152921504606846976 := by
  unfold divV; split
  · omega
  · exact byV_bd _ _
theorem upX_bd (p h : Nat → Int) (r : Int) (j : Nat) : -1152921504606846976 ≤ upX p h r j ∧ upX p h r j ≤ 1152921504606846976 := by
  have := divV_bd (bkF p h j) (bkA p h r j) 44
  unfold upX; omega
include hp hr hd hk in
theorem upU_1 {j i : Nat} (hj : j < 24) (hi : i < j) : upU p (pkF k) r j i = 0 ∧ upRH p (pkF k) r j i = false := by
  have h := hp.2 k hk
  have hu : uV p i j = 0 := by unfold uV; rw [if_neg (by omega), if_pos hi]; exact hp.1 _ (pl_lt hi hj)
  have hB := upB_1 (p := p) (k := k) hp j (by omega) i (by omega)
  have hv := (bkV_1 hp (k := k) hj).1
  have hx := upX_bd p (pkF k) r j
  have hbb : -1152921504606846976 ≤ upB p (pkF k) j i ∧ upB p (pkF k) j i ≤ 1152921504606846976 := by rw [hB]; split <;> omega
  have hvb : -1152921504606846976 ≤ bkV p (pkF k) j ∧ bkV p (pkF k) j ≤ 1152921504606846976 := by rw [hv]; split <;> omega
  have hm : mulV (upB p (pkF k) j i) (upX p (pkF k) r j) 44 = 0 ∧ mulH (upB p (pkF k) j i) (upX p (pkF k) r j) 44 = false := by
    by_cases e : j = k
    · rw [hB, if_neg (by omega)]
      exact ⟨mulV_z _ _, mulH_z hx.1 hx.2 (by decide) (by decide)⟩
    · rw [(upX_1 hp hk hr hd hj e).1, mulV_comm, mulH_comm]
      exact ⟨mulV_z _ _, mulH_z hbb.1 hbb.2 (by decide) (by decide)⟩
  unfold upU upRH upUH upBH
  rw [hm.1, hm.2, hu, mulV_z, mulH_z hvb.1 hvb.2 (by decide) (by decide), (addV_0l (by omega) (by omega)).1, (addV_0l (by omega) (by omega)).2, (addV_0l hbb.1 hbb.2).2]
  exact ⟨rfl, rfl⟩
include hp hr hd hk in
theorem upOm_1 {O : Nat → Int} (hO : ∀ x, x < 276 → O x = 0) {j : Nat} (hj : j < 24) : ∀ m, m ≤ j → ∀ x, x < 276 → upOm O p (pkF k) r j m x = 0
  | 0, _, x, hx => by simp only [upOm, upd]; rw [if_neg (by omega)]; exact hO x hx
  | m + 1, hm, x, hx => by
    simp only [upOm, upd]
    split
    · exact (upU_1 hp hk hr hd hj (by omega)).1
    · exact upOm_1 hO hj m (by omega) x hx
include hp hr hd hk in
theorem upO_1 : ∀ j, j ≤ 24 → ∀ x, x < 276 → upO p (pkF k) r j x = 0
  | 0, _, x, hx => hp.1 x hx
  | j + 1, hj, x, hx => by simp only [upO]; exact upOm_1 hp hk hr hd (upO_1 j (by omega)) (by omega) j (Nat.le_refl _) x hx
end
theorem rdiv_abs_le {x d m : Int} (hd : 0 < d) (h1 : x ≤ m * d) (h2 : -(m * d) ≤ x) (hm : 0 ≤ m) : -m ≤ rdiv x d ∧ rdiv x d ≤ m := by
  have h3 := rdiv_le hd (x := -x) (m := m) (by omega) hm
  rw [rdiv_neg1] at h3
  exact ⟨by omega, rdiv_le hd h1 hm⟩
/-- A state by itself, measured by itself. -/
theorem upd_one {p : Nat → Int} (hp : DiagF p) {k : Nat} (hk : k < 24) {r : Int} (hr : 1 ≤ r ∧ r ≤ 72057594037927936) (hd : p (276 + k) ≤ 72057594037927936) :
    (∀ x, x < 276 → updP p (pkF k) r x = 0) ∧ (∀ i, i < 24 → updP p (pkF k) r (276 + i) = if i = k then mdivV (p (276 + k)) r (p (276 + k) + r) else p (276 + i)) ∧
    (∀ i, i < 24 → updG p (pkF k) r i = if i = k then divV (p (276 + k)) (p (276 + k) + r) 30 else 0) ∧ updS p (pkF k) r = p (276 + k) + r ∧
    lkH p (pkF k) r = false ∧ (1048576 ≤ r → updH p (pkF k) r = false) := by
  have hc := cond_diag hp
  have hp' : DiagF (condF p) := ⟨fun x hx => by rw [hc.1 x (by omega)]; exact hp.1 x hx, fun i hi => by rw [hc.1 _ (by omega)]; exact hp.2 i hi⟩
  have hpk : condF p (276 + k) = p (276 + k) := hc.1 _ (by omega)
  have hd' : condF p (276 + k) ≤ 72057594037927936 := by rw [hpk]; exact hd
  have hv := varV_id (a := r) (by omega) (by omega)
  have h := hp.2 k hk
  have hU : ∀ x, x < 276 → -1152921504606846976 ≤ condF p x ∧ condF p x ≤ 1152921504606846976 := fun x hx => condF_U hx
  have hA := bkA_1 hp' hk hr hd' 24 (Nat.le_refl _)
  rw [if_pos hk, hpk] at hA
  have hlk : lkH p (pkF k) r = false := by
    unfold lkH
    rw [satS_pk, hc.2, hv.1, hv.2, orB_no, orB_no]; rfl
    · intro j hj; exact bkS_1 hp' hk hr hd' hj
    · intro i hi; unfold pkF; split; exact satH_one; exact satH_0
  refine ⟨fun x hx => ?_, fun i hi => ?_, fun i hi => ?_, ?_, hlk, fun hr2 => ?_⟩
  · unfold updP; rw [satS_pk, hv.1]; exact upO_1 hp' hk hr hd' 24 (Nat.le_refl _) x hx
  · unfold updP
    rw [satS_pk, hv.1, (upO_at hU 24 (Nat.le_refl _)).1 i hi, if_pos hi, (upDone hp' hk hr hd' hi).1, hpk, hc.1 _ (by omega)]
  · unfold updG upG
    rw [satS_pk, hv.1, upB_1 hp' 24 (Nat.le_refl _) i hi, hA, hpk, Int.add_comm r]
    by_cases e : i = k
    · rw [if_pos ⟨hk, e⟩, if_pos e]
    · rw [if_neg (by omega), if_neg e, divV_z (by rw [satV_id (by omega) (by omega)]; omega)]
  · unfold updS; rw [satS_pk, hv.1, hA, Int.add_comm]
  · unfold updH
    rw [hlk, satS_pk, hv.1, orB_no, orB_no]; rfl
    · intro i hi
      unfold upGH
      rw [upB_1 hp' 24 (Nat.le_refl _) i hi, hA, hpk]
      split
      · unfold divH byH
        rw [satV_id (a := r + p (276 + k)) (by omega) (by omega), satV_id (a := p (276 + k)) (by omega) (by omega), satH_no (a := p (276 + k)) (by omega) (by omega), satH_no (a := r + p (276 + k)) (by omega) (by omega)]
        have h30 : (2 : Int) ^ (30 : Int).toNat = 1073741824 := by decide
        rw [h30]
        have hb := rdiv_abs_le (x := p (276 + k) * 1073741824) (d := r + p (276 + k)) (m := 1073741824) (by omega) (by omega) (by omega) (by decide)
        rw [satH_no (by omega) (by omega)]
        simp; omega
      · exact divH_z (by omega) (by omega) (by decide) (by decide)
    · intro j hj
      unfold upCH
      rw [(upDone hp' hk hr hd' hj).2, orB_no fun i hi => (upU_1 hp' hk hr hd' hj hi).2]
      by_cases e : j = k
      · subst e
        have hA0 := bkA_1 hp' hk hr hd' j (by omega)
        rw [if_neg (by omega)] at hA0
        unfold upXH
        rw [(bkF_1 hp' hk).1, if_pos rfl, hA0]
        unfold divH byH
        rw [satV_one, satV_id (a := r) (by omega) (by omega), satH_one, satH_no (a := r) (by omega) (by omega)]
        have h44 : (1073741824 : Int) * 2 ^ (44 : Int).toNat = 18889465931478580854784 := by decide
        rw [h44]
        have hb := rdiv_abs_le (x := 18889465931478580854784) (d := r) (m := 1152921504606846976) (by omega) (by omega) (by omega) (by decide)
        rw [satH_no (by omega) (by omega)]
        simp; omega
      · rw [(upX_1 hp' hk hr hd' hj e).2]; rfl
end Go.Proofs.Ytokcdlcmamdloaa
/- thornton.Step's answer is good. No program. -/
namespace Go.Proofs.Ytokcdlcmamdloaa
theorem outI_good (O W e : Nat → Int) {j : Nat} (hj : j < 24) : ∀ m, m ≤ j →
    (∀ x, x < 276 → (-1152921504606846976 ≤ O x ∧ O x ≤ 1152921504606846976) → -1152921504606846976 ≤ outI O W e j m x ∧ outI O W e j m x ≤ 1152921504606846976) ∧
    (∀ i, i ≠ j → outI O W e j m (276 + i) = O (276 + i)) ∧ outI O W e j m (276 + j) = stD W e j
  | 0, _ => by
    refine ⟨fun x hx h => ?_, fun i hi => ?_, ?_⟩
    · simp only [outI, upd]; rw [if_neg (by omega)]; exact h
    · simp only [outI, upd]; rw [if_neg (by omega)]
    · simp only [outI, upd, if_true]
  | m + 1, hm => by
    obtain ⟨h1, h2, h3⟩ := outI_good O W e hj m (by omega)
    have hp := pl_lt (i := m) (j := j) (by omega) hj
    refine ⟨fun x hx h => ?_, fun i hi => ?_, ?_⟩
    · simp only [outI, upd]
      split
      · unfold stU; exact divV_bd _ _ _
      · exact h1 x hx h
    · simp only [outI, upd]; rw [if_neg (by omega)]; exact h2 i hi
    · simp only [outI, upd]; rw [if_neg (by omega)]; exact h3
theorem ON_good (W e : Nat → Int) : ∀ n, n ≤ 24 → (∀ x, x < 276 → -1152921504606846976 ≤ ON W e n x ∧ ON W e n x ≤ 1152921504606846976) ∧
    ∀ i, i < 24 → 24 - n ≤ i → 1 ≤ ON W e n (276 + i) ∧ ON W e n (276 + i) ≤ 72057594037927936
  | 0, _ => ⟨fun x _ => by simp only [ON]; omega, fun i h1 h2 => by omega⟩
  | n + 1, hn => by
    obtain ⟨h1, h2⟩ := ON_good W e n (by omega)
    obtain ⟨g1, g2, g3⟩ := outI_good (ON W e n) (WN W e n) e (j := 23 - n) (by omega) (23 - n) (Nat.le_refl _)
    refine ⟨fun x hx => by simp only [ON]; exact g1 x hx (h1 x hx), fun i hi hi2 => ?_⟩
    simp only [ON]
    by_cases e1 : i = 23 - n
    · subst e1
      rw [g3]
      unfold stD
      exact varV_bd _
    · rw [g2 i e1]; exact h2 i hi (by omega)
theorem good_of {f : Nat → Int} (h1 : ∀ x, x < 276 → -1152921504606846976 ≤ f x ∧ f x ≤ 1152921504606846976) (h2 : ∀ i, i < 24 → 1 ≤ f (276 + i) ∧ f (276 + i) ≤ 72057594037927936) : condH f = false := by
  unfold condH
  rw [orB_no, orB_no]; rfl
  · intro i hi; exact satH_no (h1 i hi).1 (h1 i hi).2
  · intro i hi; exact (varV_id (h2 i hi).1 (h2 i hi).2).2
theorem step_good (f F q : Nat → Int) : condH (stepF f F q) = false := by
  obtain ⟨h1, h2⟩ := ON_good (stepW f F) (stepE f q) 24 (Nat.le_refl _)
  exact good_of h1 fun i hi => h2 i hi (by omega)
end Go.Proofs.Ytokcdlcmamdloaa
/- block's numbers: states begun anew are apart from all others, whatever the factors are. No program. -/
namespace Go.Proofs.Ytokcdlcmamdloaa
theorem pl_inj2 {i j i' j' : Nat} (h : i < j) (h' : i' < j') (hj : j < 24) (hj' : j' < 24) (e : pl i j = pl i' j') : i = i' ∧ j = j' := by
  have key : ∀ j : Fin 24, ∀ j' : Fin 24, j.val < j'.val → j.val * (j.val - 1) / 2 + j.val ≤ j'.val * (j'.val - 1) / 2 := by decide
  unfold pl at e
  rcases Nat.lt_trichotomy j j' with h1 | h1 | h1
  · have := key ⟨j, hj⟩ ⟨j', hj'⟩ h1; simp only at this; omega
  · subst h1; omega
  · have := key ⟨j', hj'⟩ ⟨j, hj⟩ h1; simp only at this; omega
theorem mulV_0r (a : Int) : mulV a 0 30 = 0 := by
  unfold mulV
  rw [if_neg (by decide), satV_0, Int.mul_zero]
  decide
/-- The matrix that forgets the states R. -/
def rsF (R : Nat → Bool) : Nat → Int := fun x => if x / 24 = x % 24 ∧ R (x / 24) = false then 1073741824 else 0
theorem rsF_bd (R : Nat → Bool) (x : Nat) : satV (rsF R x) = rsF R x ∧ satH (rsF R x) = false := by
  unfold rsF; split
  · exact ⟨satV_one, satH_one⟩
  · exact ⟨satV_0, satH_0⟩
theorem fS_rs (R : Nat → Bool) (x : Nat) : fS (rsF R) 24 0 x = rsF R x := by
  unfold fS; split
  · exact (rsF_bd R x).1
  · rfl
theorem rsF_at {R : Nat → Bool} {i m : Nat} (hm : m < 24) : rsF R (i * 24 + m) = if i = m ∧ R i = false then 1073741824 else 0 := by
  unfold rsF
  rw [show (i * 24 + m) / 24 = i by omega, show (i * 24 + m) % 24 = m by omega]
/-- The rows of what is begun anew. -/
def ApW (R : Nat → Bool) (W : Nat → Int) : Prop :=
  ∀ k, k < 24 → R k = true → (∀ m, m < 48 → W (k * 48 + m) = if m = 24 + k then 1073741824 else 0) ∧ ∀ i, i < 24 → i ≠ k → W (i * 48 + (24 + k)) = 0
theorem stD_pos (W e : Nat → Int) (j : Nat) : satV (stD W e j) ≠ 0 := by
  have h : 1 ≤ stD W e j ∧ stD W e j ≤ 72057594037927936 := by unfold stD; exact varV_bd _
  rw [satV_id (by omega) (by omega)]; omega
theorem ap_u {R : Nat → Bool} {W e : Nat → Int} (h : ApW R W) {i j : Nat} (hi : i < 24) (hj : j < 24) (hne : i ≠ j) (hR : R i = true ∨ R j = true) : stU W e j i = 0 := by
  have hd : dotS (rowF 48 W i) (stY W e j) 48 = 0 := by
    refine dotS_no fun m hm => ?_
    rcases hR with hR | hR
    · obtain ⟨h1, h2⟩ := h i hi hR
      by_cases e1 : m = 24 + i
      · right; subst e1; unfold stY; rw [h2 j hj (fun e => hne e.symm), mulV_0]
      · left; simp only [rowF]; rw [h1 m hm, if_neg e1]
    · obtain ⟨h1, h2⟩ := h j hj hR
      by_cases e1 : m = 24 + j
      · left; subst e1; simp only [rowF]; exact h2 i hi hne
      · right; unfold stY; rw [h1 m hm, if_neg e1, mulV_0]
  unfold stU dotV
  rw [if_neg (by decide), hd, show (30 : Int).toNat = 30 from rfl, rsh_0, satV_0, divV_z (stD_pos W e j)]
theorem ap_D {R : Nat → Bool} {W e : Nat → Int} (h : ApW R W) {k : Nat} (hk : k < 24) (hR : R k = true) (he : 1 ≤ e (24 + k) ∧ e (24 + k) ≤ 72057594037927936) : stD W e k = e (24 + k) := by
  obtain ⟨h1, _⟩ := h k hk hR
  have hd : dotS (rowF 48 W k) (stY W e k) 48 = 1073741824 * e (24 + k) := by
    rw [dotS_1 (a := 24 + k) (by omega)]
    · simp only [rowF]
      unfold stY
      rw [h1 _ (by omega), if_pos rfl, mulV_one (by omega) (by omega), satV_one, satV_id (by omega) (by omega)]
    · intro m hm hne
      left; simp only [rowF]; rw [h1 m hm, if_neg hne]
  unfold stD dotV
  rw [if_neg (by decide), hd, show (30 : Int).toNat = 30 from rfl, rsh_mul, satV_id (by omega) (by omega)]
  exact (varV_id he.1 he.2).1
theorem elW_at {W e : Nat → Int} {j i m : Nat} (hm : m < 48) : elW W e j j 0 (i * 48 + m) = if i < j then subV (W (i * 48 + m)) (mulV (stU W e j i) (W (j * 48 + m)) 30) else W (i * 48 + m) := by
  unfold elW elV
  rw [show (i * 48 + m) / 48 = i by omega, show (i * 48 + m) % 48 = m by omega]
  by_cases h : i < j
  · rw [if_pos (.inl h), if_pos h]
  · rw [if_neg (by omega), if_neg h]
theorem ap_stage {R : Nat → Bool} {W e : Nat → Int} (h : ApW R W) {j : Nat} (hj : j < 24) : ApW R (elW W e j j 0) := by
  intro k hk hR
  obtain ⟨h1, h2⟩ := h k hk hR
  refine ⟨fun m hm => ?_, fun i hi hne => ?_⟩
  · rw [elW_at hm, h1 m hm]
    by_cases e1 : k < j
    · rw [if_pos e1, ap_u h hk hj (by omega) (.inl hR), mulV_0]
      split
      · exact subV_0 (by decide) (by decide)
      · exact subV_0 (by decide) (by decide)
    · rw [if_neg e1]
  · rw [elW_at (by omega), h2 i hi hne]
    by_cases e1 : i < j
    · rw [if_pos e1]
      have : mulV (stU W e j i) (W (j * 48 + (24 + k))) 30 = 0 := by
        by_cases e2 : j = k
        · subst e2; rw [ap_u h hi hj hne (.inr hR), mulV_0]
        · rw [h2 j hj e2, mulV_0r]
      rw [this]; exact subV_0 (by decide) (by decide)
    · rw [if_neg e1]
theorem outI_U (O W e : Nat → Int) {j : Nat} (hj : j < 24) : ∀ m, m ≤ j → ∀ i' j', i' < j' → j' < 24 → outI O W e j m (pl i' j') = if j' = j ∧ i' < m then stU W e j i' else O (pl i' j')
  | 0, _, i', j', h, h' => by
    simp only [outI, upd]
    rw [if_neg (by have := pl_lt h h'; omega), if_neg (by omega)]
  | m + 1, hm, i', j', h, h' => by
    simp only [outI, upd]
    by_cases e1 : pl i' j' = pl m j
    · obtain ⟨rfl, rfl⟩ := pl_inj2 h (by omega) h' hj e1
      rw [if_pos rfl, if_pos ⟨rfl, by omega⟩]
    · rw [if_neg e1, outI_U O W e hj m (by omega) i' j' h h']
      by_cases e2 : j' = j ∧ i' < m
      · rw [if_pos e2, if_pos ⟨e2.1, by omega⟩]
      · rw [if_neg e2, if_neg]
        intro ⟨e3, e4⟩
        subst e3
        have : i' = m := by omega
        subst this
        exact e1 rfl
theorem ap_all {R : Nat → Bool} {W e : Nat → Int} (h : ApW R W) (he : ∀ k, k < 24 → R k = true → 1 ≤ e (24 + k) ∧ e (24 + k) ≤ 72057594037927936) : ∀ n, n ≤ 24 →
    ApW R (WN W e n) ∧ (∀ j, 24 - n ≤ j → j < 24 → R j = true → ON W e n (276 + j) = e (24 + j)) ∧ (∀ i j, i < j → j < 24 → 24 - n ≤ j → (R i = true ∨ R j = true) → ON W e n (pl i j) = 0)
  | 0, _ => ⟨h, fun j h1 h2 => by omega, fun i j _ h1 h2 => by omega⟩
  | n + 1, hn => by
    obtain ⟨h1, h2, h3⟩ := ap_all h he n (by omega)
    have hj : 23 - n < 24 := by omega
    obtain ⟨_, g2, g3⟩ := outI_good (ON W e n) (WN W e n) e hj (23 - n) (Nat.le_refl _)
    refine ⟨ap_stage h1 hj, fun j e1 e2 hR => ?_, fun i j e1 e2 e3 hR => ?_⟩
    · simp only [ON]
      by_cases e3 : j = 23 - n
      · subst e3
        rw [g3]; exact ap_D h1 e2 hR (he _ e2 hR)
      · rw [g2 j e3]; exact h2 j (by omega) e2 hR
    · simp only [ON]
      rw [outI_U _ _ _ hj _ (Nat.le_refl _) i j e1 e2]
      by_cases e4 : j = 23 - n ∧ i < 23 - n
      · obtain ⟨rfl, _⟩ := e4
        rw [if_pos ⟨rfl, e1⟩]
        exact ap_u h1 (by omega) hj (by omega) hR
      · rw [if_neg e4]
        exact h3 i j e1 e2 (by omega) hR
/-- What is begun anew: just the variances that were given, and nothing in common with others. -/
theorem block_apart (f : Nat → Int) (R : Nat → Bool) (q : Nat → Int) (hq : ∀ k, k < 24 → R k = true → 1 ≤ q k ∧ q k ≤ 72057594037927936) :
    (∀ k, k < 24 → R k = true → stepF f (rsF R) q (276 + k) = q k) ∧ ∀ i j, i < j → j < 24 → (R i = true ∨ R j = true) → stepF f (rsF R) q (pl i j) = 0 := by
  have hW : ApW R (stepW f (rsF R)) := by
    intro k hk hR
    refine ⟨fun m hm => ?_, fun i hi hne => ?_⟩
    · unfold stepW rowsW
      rw [show (k * 48 + m) % 48 = m by omega, show (k * 48 + m) / 48 = k by omega]
      by_cases e1 : m < 24
      · rw [if_pos e1, if_neg (by omega)]
        unfold rwV dotV
        have hd : dotS (rowF 24 (fS (rsF R) 24 0) k) (colF (condF f) m) 24 = 0 := dotS_no fun m' hm' => by
          left; simp only [rowF]; rw [fS_rs, rsF_at hm', if_neg (by rw [hR]; simp)]
        rw [if_neg (by decide), hd, show (30 : Int).toNat = 30 from rfl, rsh_0, satV_0]
      · rw [if_neg e1]
    · unfold stepW rowsW
      rw [show (i * 48 + (24 + k)) % 48 = 24 + k by omega, show (i * 48 + (24 + k)) / 48 = i by omega, if_neg (by omega), if_neg (by omega)]
  have hE : ∀ k, k < 24 → R k = true → stepE f q (24 + k) = q k := by
    intro k hk hR
    have := hq k hk hR
    unfold stepE eS
    rw [if_neg (by omega), if_pos (by omega), show 24 + k - 24 = k by omega]
    exact (qV_id (by omega) (by omega)).1
  obtain ⟨_, h2, h3⟩ := ap_all (e := stepE f q) hW (fun k hk hR => by rw [hE k hk hR]; exact hq k hk hR) 24 (Nat.le_refl _)
  refine ⟨fun k hk hR => ?_, fun i j hij hj hR => ?_⟩
  · unfold stepF; rw [h2 k (by omega) hk hR]; exact hE k hk hR
  · unfold stepF; exact h3 i j hij hj (by omega) hR
end Go.Proofs.Ytokcdlcmamdloaa
/- block's numbers (2): of factors whose rows hold nothing but in the states that are forgotten, the answer exactly, and no flag. No program. -/
namespace Go.Proofs.Ytokcdlcmamdloaa
/-- The rows that are orthogonal from the start. -/
def dgW (R : Nat → Bool) (x : Nat) : Int := if (x % 48 = x / 48 ∧ R (x / 48) = false) ∨ x % 48 = 24 + x / 48 then 1073741824 else 0
theorem dgW_bd (R : Nat → Bool) (x : Nat) : -1152921504606846976 ≤ dgW R x ∧ dgW R x ≤ 1152921504606846976 := by unfold dgW; split <;> omega
theorem dgW_at {R : Nat → Bool} {i k : Nat} (hk : k < 48) : dgW R (i * 48 + k) = if (k = i ∧ R i = false) ∨ k = 24 + i then 1073741824 else 0 := by
  unfold dgW
  rw [show (i * 48 + k) % 48 = k by omega, show (i * 48 + k) / 48 = i by omega]
/-- A state's own variance, or none if it is forgotten. -/
def dgE (R : Nat → Bool) (e : Nat → Int) (j : Nat) : Int := if R j = true then 0 else e j
section
variable {R : Nat → Bool} {W e : Nat → Int} (hW : ∀ x, x < 1152 → W x = dgW R x) (he : ∀ k, k < 48 → 0 ≤ e k ∧ e k ≤ 72057594037927936)
include hW he
theorem stY_dg {j k : Nat} (hj : j < 24) (hk : k < 48) : stY W e j k = if (k = j ∧ R j = false) ∨ k = 24 + j then e k else 0 := by
  unfold stY
  rw [hW _ (by omega), dgW_at hk]
  have := he k hk
  split
  · rw [mulV_one (by omega) (by omega)]
  · rw [mulV_0]
theorem dot_dg {i j : Nat} (hi : i < 24) (hj : j < 24) : dotS (rowF 48 W i) (stY W e j) 48 = if i = j then 1073741824 * (dgE R e j + e (24 + j)) else 0 := by
  by_cases hij : i = j
  · subst hij
    have h1 := he i (by omega)
    have h2 := he (24 + i) (by omega)
    rw [if_pos rfl]
    cases hR : R i with
    | false =>
      rw [dotS_2 (a := i) (b := 24 + i) (by omega) (by omega) (by omega)]
      · rw [stY_dg hW he hj (by omega), stY_dg hW he hj (by omega), if_pos (.inl ⟨rfl, hR⟩), if_pos (.inr rfl)]
        simp only [rowF, dgE]
        rw [hW _ (by omega), hW _ (by omega), dgW_at (by omega), dgW_at (by omega), if_pos (.inl ⟨rfl, hR⟩), if_pos (.inr rfl), satV_one, satV_id (by omega) (by omega), satV_id (by omega) (by omega), Int.mul_add, hR]
        simp
      · intro k hk h1 h2
        right
        rw [stY_dg hW he hj hk, if_neg (by omega)]
    | true =>
      rw [dotS_1 (a := 24 + i) (by omega)]
      · rw [stY_dg hW he hj (by omega), if_pos (.inr rfl)]
        simp only [rowF, dgE]
        rw [hW _ (by omega), dgW_at (by omega), if_pos (.inr rfl), satV_one, satV_id (by omega) (by omega), if_pos hR, Int.zero_add]
      · intro k hk h1
        right
        rw [stY_dg hW he hj hk, if_neg (by rw [hR]; simp; omega)]
  · rw [if_neg hij, dotS_no]
    intro k hk
    by_cases h : (k = j ∧ R j = false) ∨ k = 24 + j
    · left
      simp only [rowF]
      rw [hW _ (by omega), dgW_at hk, if_neg (by omega)]
    · right
      rw [stY_dg hW he hj hk, if_neg h]
theorem dotB_dg {i j : Nat} (hi : i < 24) (hj : j < 24) : dotB (rowF 48 W i) (stY W e j) 48 = false := by
  refine dotB_no fun k hk => ⟨?_, ?_⟩
  · simp only [rowF]
    rw [hW _ (by omega)]
    exact satH_no (dgW_bd R _).1 (dgW_bd R _).2
  · rw [stY_dg hW he hj hk]
    have := he k hk
    split
    · exact satH_no (by omega) (by omega)
    · exact satH_0
variable (hs : ∀ j, j < 24 → 1 ≤ dgE R e j + e (24 + j) ∧ dgE R e j + e (24 + j) ≤ 72057594037927936)
include hs
theorem stD_dg {j : Nat} (hj : j < 24) : stD W e j = dgE R e j + e (24 + j) ∧ dB W e j = false := by
  have := hs j hj
  have hd : dotV 30 (rowF 48 W j) (stY W e j) 48 = dgE R e j + e (24 + j) := by
    unfold dotV
    rw [if_neg (by decide), dot_dg hW he hj hj, if_pos rfl, show (30 : Int).toNat = 30 from rfl, rsh_mul, satV_id (by omega) (by omega)]
  constructor
  · unfold stD
    rw [hd]
    exact (varV_id this.1 this.2).1
  · unfold dB
    rw [hd]
    unfold dotH
    rw [if_neg (by decide), dotB_dg hW he hj hj, dot_dg hW he hj hj, if_pos rfl, show (30 : Int).toNat = 30 from rfl, rsh_mul, satH_no (by omega) (by omega), (varV_id this.1 this.2).2]
    rfl
theorem stU_dg {i j : Nat} (hi : i < j) (hj : j < 24) : stU W e j i = 0 ∧ uB W e j i = false := by
  have hd : dotV 30 (rowF 48 W i) (stY W e j) 48 = 0 := by
    unfold dotV
    rw [if_neg (by decide), dot_dg hW he (by omega) hj, if_neg (by omega), show (30 : Int).toNat = 30 from rfl, rsh_0, satV_0]
  have hD := (stD_dg hW he hs hj).1
  have := hs j hj
  constructor
  · unfold stU
    rw [hd, divV_z (stD_pos W e j)]
  · unfold uB
    rw [hd, hD]
    unfold dotH divH byH
    rw [if_neg (by decide), dotB_dg hW he (by omega) hj, dot_dg hW he (by omega) hj, if_neg (by omega), show (30 : Int).toNat = 30 from rfl, rsh_0, satV_0, satH_0, Int.zero_mul, satV_id (by omega) (by omega), satH_no (by omega) (by omega)]
    rw [rdiv_0 (by omega), satH_0]
    simp; omega
theorem stage_dg {j : Nat} (hj : j < 24) : (∀ x, x < 1152 → elW W e j j 0 x = dgW R x) ∧ stageH W e j = false := by
  constructor
  · intro x hx
    unfold elW
    split
    · unfold elV
      rw [(stU_dg hW he hs (by omega) hj).1, mulV_0, show x / 48 * 48 + x % 48 = x by omega, hW x hx, subV_0 (dgW_bd R x).1 (dgW_bd R x).2]
    · exact hW x hx
  · unfold stageH
    rw [(stD_dg hW he hs hj).2, orB_no, orB_no]; rfl
    · intro i hi
      unfold rowB
      rw [(stU_dg hW he hs hi hj).2, orB_no]; rfl
      intro k hk
      unfold elB
      rw [(stU_dg hW he hs hi hj).1, mulV_0, hW _ (by omega), hW _ (by omega), mulH_0 (dgW_bd R _).1 (dgW_bd R _).2, subH_0 (dgW_bd R _).1 (dgW_bd R _).2]; rfl
    · intro k hk
      unfold yB
      have := he k hk
      rw [hW _ (by omega), dgW_at hk]
      split
      · exact mulH_one (by omega) (by omega)
      · exact mulH_0 (by omega) (by omega)
theorem outI_dg (O : Nat → Int) {j : Nat} (hj : j < 24) : ∀ m, m ≤ j → ∀ x, x < 300 → outI O W e j m x = if x = 276 + j then dgE R e j + e (24 + j) else if j * (j - 1) / 2 ≤ x ∧ x < j * (j - 1) / 2 + m then 0 else O x
  | 0, _, x, hx => by
    simp only [outI, upd]
    rw [(stD_dg hW he hs hj).1]
    split
    · rfl
    · rw [if_neg (by omega)]
  | m + 1, hm, x, hx => by
    have ht := tri_le hj
    have hp : pl m j = j * (j - 1) / 2 + m := rfl
    simp only [outI, upd]
    rw [outI_dg O hj m (by omega) x hx, (stU_dg hW he hs (by omega) hj).1]
    by_cases h1 : x = pl m j
    · rw [if_pos h1, if_neg (by omega), if_pos (by omega)]
    · rw [if_neg h1]
      split
      · rfl
      · split <;> split <;> first | rfl | omega
end
theorem all_dg {R : Nat → Bool} {W e : Nat → Int} (hW : ∀ x, x < 1152 → W x = dgW R x) (he : ∀ k, k < 48 → 0 ≤ e k ∧ e k ≤ 72057594037927936)
    (hs : ∀ j, j < 24 → 1 ≤ dgE R e j + e (24 + j) ∧ dgE R e j + e (24 + j) ≤ 72057594037927936) : ∀ n, n ≤ 24 →
    (∀ x, x < 1152 → WN W e n x = dgW R x) ∧ HN W e n = false ∧ ∀ x, x < 300 → ON W e n x = if 300 - n ≤ x then dgE R e (x - 276) + e (24 + (x - 276)) else 0
  | 0, _ => ⟨hW, rfl, fun x hx => by rw [if_neg (by omega)]; rfl⟩
  | n + 1, hn => by
    obtain ⟨h1, h2, h3⟩ := all_dg hW he hs n (by omega)
    have ht := tri_le (j := 23 - n) (by omega)
    have hst := stage_dg h1 he hs (j := 23 - n) (by omega)
    refine ⟨hst.1, ?_, fun x hx => ?_⟩
    · simp only [HN]; rw [h2, hst.2]; rfl
    · simp only [ON]
      rw [outI_dg h1 he hs _ (by omega) _ (Nat.le_refl _) x hx, h3 x hx]
      by_cases hx1 : x = 276 + (23 - n)
      · rw [if_pos hx1, if_pos (by omega), hx1, show 276 + (23 - n) - 276 = 23 - n by omega]
      · rw [if_neg hx1]
        by_cases hx2 : 300 - n ≤ x
        · rw [if_pos hx2, if_neg (by omega), if_pos (by omega)]
        · have hx3 : ¬ 300 - (n + 1) ≤ x := by omega
          rw [if_neg hx2, if_neg hx3]
          split <;> rfl
/-- Factors that are good, with numbers above the diagonal in forgotten rows alone. -/
structure RsP (R : Nat → Bool) (f : Nat → Int) : Prop where
  u : ∀ i j, i < j → j < 24 → -1152921504606846976 ≤ f (pl i j) ∧ f (pl i j) ≤ 1152921504606846976
  z : ∀ i j, i < j → j < 24 → R i = false → f (pl i j) = 0
  d : ∀ i, i < 24 → 1 ≤ f (276 + i) ∧ f (276 + i) ≤ 72057594037927936
theorem rw_rs {R : Nat → Bool} {f : Nat → Int} (hu : ∀ i j, i < j → j < 24 → -1152921504606846976 ≤ f (pl i j) ∧ f (pl i j) ≤ 1152921504606846976) (hz : ∀ i j, i < j → j < 24 → R i = false → f (pl i j) = 0) {i k : Nat} (hi : i < 24) (hk : k < 24) :
    rwV f (fS (rsF R) 24 0) i k = (if i = k ∧ R i = false then 1073741824 else 0) ∧ rwB f (fS (rsF R) 24 0) i k = false := by
  have hc : ∀ m, m < 24 → -1152921504606846976 ≤ colF f k m ∧ colF f k m ≤ 1152921504606846976 := by
    intro m hm
    unfold colF uV
    split
    · split
      · omega
      · split
        · rename_i h; exact hu m k h hk
        · omega
    · omega
  have hd : dotS (rowF 24 (fS (rsF R) 24 0) i) (colF f k) 24 = if i = k ∧ R i = false then 1073741824 * 1073741824 else 0 := by
    cases hR : R i with
    | true =>
      rw [if_neg (by simp), dotS_no]
      intro m hm
      left; simp only [rowF]; rw [fS_rs, rsF_at hm, if_neg (by rw [hR]; simp)]
    | false =>
      have e0 : dotS (rowF 24 (fS (rsF R) 24 0) i) (colF f k) 24 = satV (rowF 24 (fS (rsF R) 24 0) i i) * satV (colF f k i) := by
        refine dotS_1 hi fun m hm hmi => ?_
        left; simp only [rowF]; rw [fS_rs, rsF_at hm, if_neg (by omega)]
      rw [e0]
      simp only [rowF]
      rw [fS_rs, rsF_at hi, if_pos ⟨rfl, hR⟩, satV_one]
      by_cases e1 : i = k
      · subst e1
        rw [if_pos (by simp)]
        unfold colF uV
        rw [if_pos (Nat.le_refl _), if_pos rfl, satV_one]
      · rw [if_neg (by simp [e1])]
        have : colF f k i = 0 := by
          unfold colF uV
          by_cases h : i < k
          · rw [if_pos (by omega), if_neg e1, if_pos h]; exact hz i k h hk hR
          · rw [if_neg (by omega)]
        rw [this, satV_0]; rfl
  have hb : dotB (rowF 24 (fS (rsF R) 24 0) i) (colF f k) 24 = false := by
    refine dotB_no fun m hm => ⟨?_, ?_⟩
    · simp only [rowF]; rw [fS_rs]; exact (rsF_bd R _).2
    · exact satH_no (hc m hm).1 (hc m hm).2
  unfold rwV rwB dotV dotH
  rw [if_neg (by decide : ¬ ((30 : Int) < 0 ∨ (120 : Int) < 30)), if_neg (by decide : ¬ ((30 : Int) < 0 ∨ (120 : Int) < 30)), hb, hd, show (30 : Int).toNat = 30 from rfl]
  by_cases e : i = k ∧ R i = false
  · rw [if_pos e, if_pos e, rsh_mul]; exact ⟨satV_one, by rw [satH_one]; rfl⟩
  · rw [if_neg e, if_neg e, rsh_0]; exact ⟨satV_0, by rw [satH_0]; rfl⟩
theorem pl_all {x : Nat} (hx : x < 276) : ∃ i j, i < j ∧ j < 24 ∧ x = pl i j := by
  have key : ∀ x : Fin 276, ∃ j : Fin 24, j.val * (j.val - 1) / 2 ≤ x.val ∧ x.val < j.val * (j.val - 1) / 2 + j.val := by decide +kernel
  obtain ⟨j, h1, h2⟩ := key ⟨x, hx⟩
  simp only at h1 h2
  exact ⟨x - j.val * (j.val - 1) / 2, j.val, by omega, j.isLt, by unfold pl; omega⟩
theorem cond_rs {R : Nat → Bool} {f : Nat → Int} (h : RsP R f) : (∀ x, x < 300 → condF f x = f x) ∧ condH f = false := by
  have hg : condH f = false := good_of (fun x hx => by obtain ⟨i, j, h1, h2, rfl⟩ := pl_all hx; exact h.u i j h1 h2) h.d
  exact ⟨cond_good hg, hg⟩
theorem step_reset {R : Nat → Bool} {f q : Nat → Int} (h : RsP R f) (hq : ∀ i, i < 24 → 0 ≤ q i ∧ q i ≤ 72057594037927936) (hr : ∀ i, i < 24 → 1 ≤ dgE R (fun i => f (276 + i)) i + q i ∧ dgE R (fun i => f (276 + i)) i + q i ≤ 72057594037927936) :
    (∀ x, x < 300 → stepF f (rsF R) q x = if x < 276 then 0 else dgE R (fun i => f (276 + i)) (x - 276) + q (x - 276)) ∧ stepH f (rsF R) q = false := by
  have hc := cond_rs h
  have hcu : ∀ i j, i < j → j < 24 → -1152921504606846976 ≤ condF f (pl i j) ∧ condF f (pl i j) ≤ 1152921504606846976 := fun i j h1 h2 => by rw [hc.1 _ (by have := pl_lt h1 h2; omega)]; exact h.u i j h1 h2
  have hcz : ∀ i j, i < j → j < 24 → R i = false → condF f (pl i j) = 0 := fun i j h1 h2 hR => by rw [hc.1 _ (by have := pl_lt h1 h2; omega)]; exact h.z i j h1 h2 hR
  have hW : ∀ x, x < 1152 → stepW f (rsF R) x = dgW R x := by
    intro x hx
    unfold stepW rowsW dgW
    split
    · rw [(rw_rs hcu hcz (by omega) (by omega)).1]
      by_cases e : x / 48 = x % 48 ∧ R (x / 48) = false
      · rw [if_pos e, if_pos (.inl ⟨e.1.symm, e.2⟩)]
      · rw [if_neg e, if_neg]
        intro h'
        rcases h' with h' | h'
        · exact e ⟨h'.1.symm, h'.2⟩
        · omega
    · split
      · rename_i h1 h2; rw [if_pos (.inr h2)]
      · rename_i h1 h2; rw [if_neg (by omega)]
  have hE : ∀ k, k < 48 → stepE f q k = if k < 24 then f (276 + k) else q (k - 24) := by
    intro k hk
    unfold stepE eS
    split
    · rw [hc.1 _ (by omega)]
    · rw [if_pos (by omega)]
      have h1 := hq (k - 24) (by omega)
      exact (qV_id (by omega) (by omega)).1
  have hG : ∀ j, j < 24 → dgE R (stepE f q) j + stepE f q (24 + j) = dgE R (fun i => f (276 + i)) j + q j := by
    intro j hj
    unfold dgE
    rw [hE j (by omega), hE (24 + j) (by omega)]
    simp only [if_pos hj, if_neg (show ¬ 24 + j < 24 by omega), show 24 + j - 24 = j by omega]
  have hA := all_dg (R := R) (W := stepW f (rsF R)) (e := stepE f q) hW (fun k hk => by
    rw [hE k hk]
    split
    · have := h.d k (by omega); omega
    · exact hq (k - 24) (by omega)) (fun j hj => by rw [hG j hj]; exact hr j hj) 24 (Nat.le_refl _)
  constructor
  · intro x hx
    unfold stepF
    rw [hA.2.2 x hx]
    by_cases e : x < 276
    · rw [if_neg (by omega), if_pos e]
    · rw [if_pos (by omega), if_neg e, hG _ (by omega)]
  · unfold stepH
    rw [hc.2, hA.2.1]
    have h1 : loop1H q (rsF R) 24 = false := by
      unfold loop1H
      refine orB_no fun i hi => ?_
      have h1 := hq i hi
      rw [(qV_id (a := q i) (by omega) (by omega)).2]
      unfold row1H
      rw [orB_no]; rfl
      intro k hk; exact (rsF_bd R _).2
    have h2 : rowsH (condF f) (fS (rsF R) 24 0) = false := by
      unfold rowsH rwH
      refine orB_no fun k hk => orB_no fun i hi => ?_
      exact (rw_rs hcu hcz hi hk).2
    rw [h1, h2]; rfl
end Go.Proofs.Ytokcdlcmamdloaa
