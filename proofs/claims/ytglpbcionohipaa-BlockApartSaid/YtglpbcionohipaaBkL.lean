/- bierman's plain laws: a row of noughts, turned signs, what is learnt is good. No program. -/
import Derived.Test.YtglpbcionohipaaBkP
import Derived.Test.YtglpbcionohipaaDiag
namespace Go.Proofs.Ytglpbcionohipaa
theorem orB_congr {p q : Nat → Bool} : ∀ {n : Nat}, (∀ i, i < n → p i = q i) → orB p n = orB q n
  | 0, _ => rfl
  | n + 1, h => by simp only [orB]; rw [orB_congr fun i hi => h i (by omega), h n (by omega)]
theorem orB_false {p : Nat → Bool} : ∀ {n : Nat}, orB p n = false → ∀ i, i < n → p i = false
  | n + 1, h, i, hi => by
    simp only [orB, Bool.or_eq_false_iff] at h
    by_cases e : i = n
    · subst e; exact h.2
    · exact orB_false h.1 i (by omega)
theorem condF_U {f : Nat → Int} {x : Nat} (h : x < 276) : -1152921504606846976 ≤ condF f x ∧ condF f x ≤ 1152921504606846976 := by
  unfold condF; rw [if_pos h]; exact satV_bd _
theorem varV_bd (a : Int) : 1 ≤ varV a ∧ varV a ≤ 72057594037927936 := by
  unfold varV clampV; repeat' split
  all_goals omega
theorem condF_D {f : Nat → Int} {i : Nat} : 1 ≤ condF f (276 + i) ∧ condF f (276 + i) ≤ 72057594037927936 := by
  unfold condF; rw [if_neg (by omega)]; exact varV_bd _
theorem uV_bd {p : Nat → Int} (hp : ∀ x, x < 276 → -1152921504606846976 ≤ p x ∧ p x ≤ 1152921504606846976) {i j : Nat} (hj : j < 24) : -1152921504606846976 ≤ uV p i j ∧ uV p i j ≤ 1152921504606846976 := by
  unfold uV
  split
  · omega
  · split
    · rename_i h; exact hp _ (pl_lt h hj)
    · omega
theorem addV_0l {a : Int} (h1 : -1152921504606846976 ≤ a) (h2 : a ≤ 1152921504606846976) : addV a 0 = a ∧ addH a 0 = false := by
  unfold addV addH
  rw [satV_0, Int.add_zero, satV_id h1 h2, satV_id h1 h2, satH_no h1 h2, satH_0]; exact ⟨rfl, rfl⟩
theorem mulV_z (e : Int) (s : Int) : mulV 0 e s = 0 := by
  unfold mulV
  split
  · rfl
  · rw [satV_0, Int.zero_mul]
    have : rsh 0 s.toNat = 0 := by
      unfold rsh; exact rdiv_0 (Int.ne_of_gt (Int.pow_pos (by decide)))
    rw [this, satV_0]
theorem mulV_comm (a b s : Int) : mulV a b s = mulV b a s := by unfold mulV; rw [Int.mul_comm]
theorem divV_z {b : Int} (hb : satV b ≠ 0) (s : Int) : divV 0 b s = 0 := by
  unfold divV byV
  rw [if_neg hb]
  split
  · rfl
  · rw [satV_0, Int.zero_mul, rdiv_0 hb, satV_0]
theorem rdiv_self_mul {d a : Int} (ha : 0 < a) : rdiv (d * a) a = d := by
  unfold rdiv
  have e : (d * a).natAbs = d.natAbs * a.natAbs := Int.natAbs_mul ..
  have hp : 0 < a.natAbs := by omega
  have e1 : (2 * (d * a).natAbs + a.natAbs) / (2 * a.natAbs) = d.natAbs := by
    rw [e, ← Nat.mul_assoc]
    rw [show 2 * d.natAbs * a.natAbs = d.natAbs * (2 * a.natAbs) by rw [Nat.mul_comm 2, Nat.mul_assoc], Nat.mul_comm d.natAbs]
    rw [Nat.mul_add_div (by omega)]
    rw [Nat.div_eq_of_lt (by omega)]; omega
  rw [e1]
  by_cases hd : 0 ≤ d
  · rw [if_pos (by simp [ha, Int.mul_nonneg hd (Int.le_of_lt ha)])]; omega
  · have : d * a < 0 := Int.mul_neg_of_neg_of_pos (by omega) ha
    rw [if_neg (by simp [ha]; omega)]; omega
section
variable {p : Nat → Int} (hU : ∀ x, x < 276 → -1152921504606846976 ≤ p x ∧ p x ≤ 1152921504606846976) (hD : ∀ i, i < 24 → 1 ≤ p (276 + i) ∧ p (276 + i) ≤ 72057594037927936) {r : Int} (hr : 1 ≤ r ∧ r ≤ 72057594037927936)
theorem dot_zero (s : Int) (B : Nat → Int) (n : Nat) : dotV s (fun _ => 0) B n = 0 := by
  unfold dotV
  split
  · rfl
  · rw [dotS_no fun i _ => .inl rfl]
    have : rsh 0 s.toNat = 0 := by
      unfold rsh; exact rdiv_0 (Int.ne_of_gt (Int.pow_pos (by decide)))
    rw [this, satV_0]
theorem bkF_0 (j : Nat) : bkF p (fun _ => 0) j = 0 := dot_zero _ _ _
theorem bkV_0 (j : Nat) : bkV p (fun _ => 0) j = 0 := by unfold bkV; rw [bkF_0, mulV_comm, mulV_z]
include hr in
theorem bkA_0 : ∀ j, bkA p (fun _ => 0) r j = r
  | 0 => rfl
  | j + 1 => by
    simp only [bkA]
    rw [bkA_0 j, bkF_0, mulV_z]
    exact (addV_0l (by omega) (by omega)).1
theorem upB_0 : ∀ j i, upB p (fun _ => 0) j i = 0
  | 0, _ => rfl
  | j + 1, i => by
    simp only [upB]
    rw [upB_0 j i, bkV_0, mulV_comm, mulV_z]
    split
    · rfl
    · split
      · exact (addV_0l (by omega) (by omega)).1
      · rfl
include hr in
theorem upX_0 (j : Nat) : upX p (fun _ => 0) r j = 0 := by
  unfold upX
  rw [bkF_0, bkA_0 hr, divV_z (by rw [satV_id (by omega) (by omega)]; omega)]; rfl
include hD hr in
theorem upD_0 {j : Nat} (hj : j < 24) : upD p (fun _ => 0) r j = p (276 + j) := by
  have h := hD j hj
  unfold upD mdivV byV
  rw [bkA_0 hr, bkA_0 hr, satV_id (a := r) (by omega) (by omega), if_neg (by omega), satV_id (a := p (276 + j)) (by omega) (by omega), rdiv_self_mul (by omega), satV_id (by omega) (by omega)]
  exact (varV_id h.1 h.2).1
include hU in
theorem upU_0 {j i : Nat} (hj : j < 24) : upU p (fun _ => 0) r j i = uV p i j := by
  unfold upU
  rw [upB_0, mulV_z]
  have := uV_bd hU (i := i) hj
  exact (addV_0l (by omega) (by omega)).1
include hU hD hr in
theorem upOm_0 {O : Nat → Int} (hO : ∀ x, x < 300 → O x = p x) {j : Nat} (hj : j < 24) : ∀ m, m ≤ j → ∀ x, x < 300 → upOm O p (fun _ => 0) r j m x = p x
  | 0, _, x, hx => by
    simp only [upOm, upd]
    split
    · rename_i e; rw [upD_0 hD hr hj, e]
    · exact hO x hx
  | m + 1, hm, x, hx => by
    simp only [upOm, upd]
    split
    · rename_i e
      rw [upU_0 hU hj, e]
      unfold uV
      rw [if_neg (by omega), if_pos (by omega)]
    · exact upOm_0 hO hj m (by omega) x hx
include hU hD hr in
theorem upO_0 : ∀ j, j ≤ 24 → ∀ x, x < 300 → upO p (fun _ => 0) r j x = p x
  | 0, _, _, _ => rfl
  | j + 1, hj, x, hx => by simp only [upO]; exact upOm_0 hU hD hr (upO_0 j (by omega)) (by omega) j (Nat.le_refl _) x hx
end
theorem satS_0 : satS (fun _ => 0) 24 = fun _ => 0 := by funext i; simp [satS, satV_0]
theorem upd_nothing (p : Nat → Int) (r : Int) :
    (∀ x, x < 300 → updP p (fun _ => 0) r x = condF p x) ∧ (∀ i, updG p (fun _ => 0) r i = 0) ∧ updS p (fun _ => 0) r = varV r := by
  have hv := varV_bd r
  refine ⟨fun x hx => ?_, fun i => ?_, ?_⟩
  · unfold updP
    rw [satS_0]
    exact upO_0 (fun x h => condF_U h) (fun i _ => condF_D) hv 24 (Nat.le_refl _) x hx
  · unfold updG upG
    rw [satS_0, upB_0, divV_z (by rw [bkA_0 hv, satV_id (by omega) (by omega)]; omega)]
  · unfold updS
    rw [satS_0, bkA_0 hv]
/-- Turned signs. -/
theorem satV_neg (a : Int) : satV (-a) = -satV a := by
  unfold satV clampV; repeat' split
  all_goals omega
theorem satH_neg (a : Int) : satH (-a) = satH a := by
  unfold satH clampH; rw [Bool.eq_iff_iff]; simp; omega
theorem rdiv_neg1 (a d : Int) : rdiv (-a) d = -rdiv a d := by
  by_cases ha : a = 0
  · subst ha
    by_cases hd : d = 0
    · subst hd; decide
    · rw [Int.neg_zero, rdiv_0 hd]; rfl
  · unfold rdiv
    rw [Int.natAbs_neg]
    generalize (((2 * a.natAbs + d.natAbs) / (2 * d.natAbs) : Nat) : Int) = q
    by_cases h1 : 0 < d
    · by_cases h2 : 0 ≤ a
      · rw [if_neg (by simp [h1]; omega), if_pos (by simp [h1]; omega)]
      · rw [if_pos (by simp [h1]; omega), if_neg (by simp [h1]; omega)]; omega
    · by_cases h2 : 0 ≤ a
      · rw [if_pos (by simp [h1]; omega), if_neg (by simp [h1]; omega)]; omega
      · rw [if_neg (by simp [h1]; omega), if_pos (by simp [h1]; omega)]
theorem rsh_neg1 (a : Int) (s : Nat) : rsh (-a) s = -rsh a s := rdiv_neg1 _ _
theorem mulV_negl (a b s : Int) : mulV (-a) b s = -mulV a b s := by
  unfold mulV
  split
  · rfl
  · rw [satV_neg, Int.neg_mul, rsh_neg1, satV_neg]
theorem mulV_negr (a b s : Int) : mulV a (-b) s = -mulV a b s := by rw [mulV_comm, mulV_negl, mulV_comm]
theorem mulH_negl (a b s : Int) : mulH (-a) b s = mulH a b s := by
  unfold mulH
  rw [satH_neg, satV_neg, Int.neg_mul, rsh_neg1, satH_neg]
theorem mulH_comm (a b s : Int) : mulH a b s = mulH b a s := by
  unfold mulH; rw [Int.mul_comm, Bool.or_comm (satH a)]
theorem mulH_negr (a b s : Int) : mulH a (-b) s = mulH a b s := by rw [mulH_comm, mulH_negl, mulH_comm]
theorem byV_neg (x d : Int) : byV (-x) d = -byV x d := by
  unfold byV
  split
  · by_cases h : x = 0
    · simp [h]
    · rw [if_neg (by omega), if_neg h]
      by_cases h2 : x < 0
      · rw [if_neg (by omega), if_pos h2]; rfl
      · rw [if_pos (by omega), if_neg h2]
  · rw [rdiv_neg1, satV_neg]
theorem byH_neg (x d : Int) : byH (-x) d = byH x d := by
  unfold byH; rw [rdiv_neg1, satH_neg]
theorem divV_neg (a b s : Int) : divV (-a) b s = -divV a b s := by
  unfold divV
  split
  · rfl
  · rw [satV_neg, Int.neg_mul, byV_neg]
theorem divH_neg (a b s : Int) : divH (-a) b s = divH a b s := by
  unfold divH; rw [satV_neg, satH_neg, Int.neg_mul, byH_neg]
theorem addV_neg (a b : Int) : addV (-a) (-b) = -addV a b := by
  unfold addV
  rw [satV_neg, satV_neg, ← Int.neg_add, satV_neg]
theorem addH_neg (a b : Int) : addH (-a) (-b) = addH a b := by
  unfold addH
  rw [satV_neg, satV_neg, satH_neg, satH_neg, ← Int.neg_add, satH_neg]
theorem dotS_neg (A B : Nat → Int) : ∀ n, dotS (fun i => -A i) B n = -dotS A B n
  | 0 => rfl
  | n + 1 => by simp only [dotS]; rw [dotS_neg A B n, satV_neg, Int.neg_mul]; omega
theorem dotB_neg (A B : Nat → Int) : ∀ n, dotB (fun i => -A i) B n = dotB A B n
  | 0 => rfl
  | n + 1 => by simp only [dotB]; rw [dotB_neg A B n, satH_neg]
theorem dotV_neg (s : Int) (A B : Nat → Int) (n : Nat) : dotV s (fun i => -A i) B n = -dotV s A B n := by
  unfold dotV
  split
  · rfl
  · rw [dotS_neg, rsh_neg1, satV_neg]
theorem dotH_neg (s : Int) (A B : Nat → Int) (n : Nat) : dotH s (fun i => -A i) B n = dotH s A B n := by
  unfold dotH
  split
  · rfl
  · rw [dotS_neg, dotB_neg, rsh_neg1, satH_neg]
section
variable (p h : Nat → Int) (r : Int)
theorem bkF_neg (j : Nat) : bkF p (fun i => -h i) j = -bkF p h j := dotV_neg _ _ _ _
theorem bkV_neg (j : Nat) : bkV p (fun i => -h i) j = -bkV p h j := by unfold bkV; rw [bkF_neg, mulV_negr]
theorem bkA_neg : ∀ j, bkA p (fun i => -h i) r j = bkA p h r j
  | 0 => rfl
  | j + 1 => by
    simp only [bkA]
    rw [bkA_neg j, bkF_neg, bkV_neg, mulV_negl, mulV_negr, Int.neg_neg]
theorem bkS_neg (j : Nat) : bkS p (fun i => -h i) r j = bkS p h r j := by
  unfold bkS bkFH bkVH bkAH
  rw [dotH_neg, bkF_neg, bkV_neg, bkA_neg, mulH_negr, mulH_negl, mulH_negr, mulV_negl, mulV_negr, Int.neg_neg]
theorem upB_neg : ∀ j i, upB p (fun i => -h i) j i = -upB p h j i
  | 0, _ => rfl
  | j + 1, i => by
    simp only [upB]
    rw [upB_neg j i, bkV_neg]
    split
    · rfl
    · split
      · rw [mulV_negr, addV_neg]
      · rfl
theorem upX_neg (j : Nat) : upX p (fun i => -h i) r j = -upX p h r j := by
  unfold upX; rw [bkF_neg, bkA_neg, divV_neg]
theorem upD_neg (j : Nat) : upD p (fun i => -h i) r j = upD p h r j := by unfold upD; rw [bkA_neg, bkA_neg]
theorem upU_neg (j i : Nat) : upU p (fun i => -h i) r j i = upU p h r j i := by
  unfold upU; rw [upB_neg, upX_neg, mulV_negl, mulV_negr, Int.neg_neg]
theorem upOm_neg (O : Nat → Int) (j : Nat) : ∀ m, upOm O p (fun i => -h i) r j m = upOm O p h r j m
  | 0 => by simp only [upOm]; rw [upD_neg]
  | m + 1 => by simp only [upOm]; rw [upOm_neg O j m, upU_neg]
theorem upO_neg : ∀ j, upO p (fun i => -h i) r j = upO p h r j
  | 0 => rfl
  | j + 1 => by simp only [upO]; rw [upO_neg j, upOm_neg]
theorem upCH_neg (j : Nat) : upCH p (fun i => -h i) r j = upCH p h r j := by
  unfold upCH upDH upXH
  rw [bkA_neg, bkA_neg, bkF_neg, divH_neg, orB_congr (q := upRH p h r j)]
  intro i _
  unfold upRH upUH upBH
  rw [upB_neg, upX_neg, bkV_neg, mulV_negl, mulV_negr, Int.neg_neg, mulH_negl, mulH_negr, mulH_negr, mulV_negr, addH_neg]
end
theorem satS_neg (h : Nat → Int) : satS (fun i => -h i) 24 = fun i => -satS h 24 i := by
  funext i; unfold satS; split
  · exact satV_neg _
  · rfl
theorem upd_sign (p h : Nat → Int) (r : Int) : updP p (fun i => -h i) r = updP p h r ∧ (∀ i, updG p (fun i => -h i) r i = -updG p h r i) ∧ updS p (fun i => -h i) r = updS p h r ∧ updH p (fun i => -h i) r = updH p h r := by
  refine ⟨?_, fun i => ?_, ?_, ?_⟩
  · unfold updP; rw [satS_neg, upO_neg]
  · unfold updG upG; rw [satS_neg, upB_neg, bkA_neg, divV_neg]
  · unfold updS; rw [satS_neg, bkA_neg]
  · unfold updH lkH
    rw [satS_neg, orB_congr (p := fun i => satH (-h i)) (q := fun i => satH (h i)) fun i _ => satH_neg _, orB_congr fun j _ => bkS_neg _ _ _ j, orB_congr (p := upCH _ (fun i => -satS h 24 i) _) fun j _ => upCH_neg _ _ _ j]
    rw [orB_congr (p := upGH _ (fun i => -satS h 24 i) _) (q := upGH (condF p) (satS h 24) (varV r))]
    intro i _
    unfold upGH; rw [upB_neg, bkA_neg, divH_neg]
/-- What is learnt is good, and no D is greater. -/
theorem rdiv_le {x d m : Int} (hd : 0 < d) (h : x ≤ m * d) (hm : 0 ≤ m) : rdiv x d ≤ m := by
  unfold rdiv
  by_cases hx : 0 ≤ x
  · rw [if_pos (by simp [hx, hd])]
    have : (2 * x.natAbs + d.natAbs) / (2 * d.natAbs) < m.natAbs + 1 := by
      apply Nat.div_lt_of_lt_mul
      have e : (x.natAbs : Int) ≤ (m.natAbs * d.natAbs : Nat) := by rw [Int.natCast_mul, Int.natAbs_of_nonneg hm, Int.natAbs_of_nonneg (Int.le_of_lt hd), Int.natAbs_of_nonneg hx]; exact h
      have e2 : x.natAbs ≤ m.natAbs * d.natAbs := by omega
      have e3 : 2 * d.natAbs * (m.natAbs + 1) = 2 * (m.natAbs * d.natAbs) + 2 * d.natAbs := by
        rw [Nat.mul_add, Nat.mul_one, Nat.mul_assoc, Nat.mul_comm d.natAbs]
      have : 0 < d.natAbs := by omega
      rw [e3]
      generalize m.natAbs * d.natAbs = k at *
      omega
    omega
  · rw [if_neg (by simp [hx, hd])]
    have : (0 : Int) ≤ (((2 * x.natAbs + d.natAbs) / (2 * d.natAbs) : Nat) : Int) := Int.natCast_nonneg _
    omega
theorem rdiv_nonneg {x d : Int} (hx : 0 ≤ x) (hd : 0 < d) : 0 ≤ rdiv x d := by
  unfold rdiv
  rw [if_pos (by simp [hx, hd])]; exact Int.natCast_nonneg _
theorem rdiv_nonpos {x d : Int} (hx : x ≤ 0) (hd : 0 < d) : rdiv x d ≤ 0 := by
  have := rdiv_nonneg (x := -x) (by omega) hd
  rw [rdiv_neg1] at this; omega
theorem satV_nonneg {a : Int} (h : 0 ≤ a) : 0 ≤ satV a := by
  unfold satV clampV; repeat' split
  all_goals omega
theorem satV_nonpos {a : Int} (h : a ≤ 0) : satV a ≤ 0 := by
  unfold satV clampV; repeat' split
  all_goals omega
theorem satV_le {a m : Int} (h : a ≤ m) (hm : -1152921504606846976 ≤ m) : satV a ≤ m := by
  unfold satV clampV; repeat' split
  all_goals omega
theorem mulV_sign {a b s : Int} : (0 ≤ a → 0 ≤ b → 0 ≤ mulV a b s) ∧ (a ≤ 0 → b ≤ 0 → 0 ≤ mulV a b s) ∧ (0 ≤ a → b ≤ 0 → mulV a b s ≤ 0) := by
  have hp : ∀ s : Nat, (0 : Int) < 2 ^ s := fun s => Int.pow_pos (by decide)
  refine ⟨fun h1 h2 => ?_, fun h1 h2 => ?_, fun h1 h2 => ?_⟩ <;> unfold mulV <;> split
  · omega
  · exact satV_nonneg (rdiv_nonneg (Int.mul_nonneg (satV_nonneg h1) (satV_nonneg h2)) (hp _))
  · omega
  · exact satV_nonneg (rdiv_nonneg (Int.mul_nonneg_of_nonpos_of_nonpos (satV_nonpos h1) (satV_nonpos h2)) (hp _))
  · omega
  · exact satV_nonpos (rdiv_nonpos (Int.mul_nonpos_of_nonneg_of_nonpos (satV_nonneg h1) (satV_nonpos h2)) (hp _))
section
variable {p h : Nat → Int} {r : Int} (hD : ∀ i, i < 24 → 1 ≤ p (276 + i) ∧ p (276 + i) ≤ 72057594037927936) (hr : 1 ≤ r ∧ r ≤ 72057594037927936)
include hD
theorem fv_nonneg {j : Nat} (hj : j < 24) : 0 ≤ mulV (bkF p h j) (bkV p h j) 30 := by
  have h1 := hD j hj
  unfold bkV
  rcases Int.le_total 0 (bkF p h j) with h2 | h2
  · exact mulV_sign.1 h2 (mulV_sign.1 (by omega) h2)
  · exact mulV_sign.2.1 h2 (mulV_sign.2.2 (by omega) h2)
include hr
theorem bkA_bd : ∀ j, j ≤ 24 → r ≤ bkA p h r j ∧ bkA p h r j ≤ 1152921504606846976
  | 0, _ => by simp only [bkA]; omega
  | j + 1, hj => by
    have h1 := bkA_bd j (by omega)
    have h2 := fv_nonneg (p := p) (h := h) hD (j := j) (by omega)
    simp only [bkA]
    unfold addV
    have h3 := satV_nonneg h2
    rw [satV_id (a := bkA p h r j) (by omega) (by omega)]
    refine ⟨?_, (satV_bd _).2⟩
    generalize satV (mulV (bkF p h j) (bkV p h j) 30) = y at *
    unfold satV clampV; repeat' split
    all_goals omega
theorem bkA_up {j : Nat} (hj : j < 24) : bkA p h r j ≤ bkA p h r (j + 1) := by
  have h1 := bkA_bd (h := h) hD hr j (by omega)
  have h2 := fv_nonneg (p := p) (h := h) hD hj
  simp only [bkA]
  unfold addV
  have h3 := satV_nonneg h2
  rw [satV_id (a := bkA p h r j) (by omega) (by omega)]
  generalize satV (mulV (bkF p h j) (bkV p h j) 30) = y at *
  unfold satV clampV; repeat' split
  all_goals omega
theorem upD_le {j : Nat} (hj : j < 24) : upD p h r j ≤ p (276 + j) := by
  have h0 := hD j hj
  have h1 := bkA_bd (h := h) hD hr j (by omega)
  have h2 := bkA_bd (h := h) hD hr (j + 1) (by omega)
  have h3 := bkA_up (h := h) hD hr hj
  unfold upD mdivV byV
  rw [satV_id (a := bkA p h r j) (by omega) (by omega), satV_id (a := bkA p h r (j + 1)) (by omega) (by omega), satV_id (a := p (276 + j)) (by omega) (by omega), if_neg (by omega)]
  have : rdiv (p (276 + j) * bkA p h r j) (bkA p h r (j + 1)) ≤ p (276 + j) := rdiv_le (by omega) (Int.mul_le_mul_of_nonneg_left h3 (by omega)) (by omega)
  have := satV_le this (by omega)
  unfold varV clampV; repeat' split
  all_goals omega
end
theorem upOm_at {O p h : Nat → Int} {r : Int} {j : Nat} (hj : j < 24) : ∀ m, m ≤ j → (∀ i, i < 24 → i ≠ j → upOm O p h r j m (276 + i) = O (276 + i)) ∧ upOm O p h r j m (276 + j) = upD p h r j ∧
    ∀ x, x < 276 → (-1152921504606846976 ≤ O x ∧ O x ≤ 1152921504606846976) → -1152921504606846976 ≤ upOm O p h r j m x ∧ upOm O p h r j m x ≤ 1152921504606846976
  | 0, _ => by
    refine ⟨fun i hi hne => ?_, ?_, fun x hx hO => ?_⟩
    · simp only [upOm, upd]; rw [if_neg (by omega)]
    · simp only [upOm, upd, if_true]
    · simp only [upOm, upd]; rw [if_neg (by omega)]; exact hO
  | m + 1, hm => by
    obtain ⟨h1, h2, h3⟩ := upOm_at (O := O) (p := p) (h := h) (r := r) hj m (by omega)
    have hp := pl_lt (i := m) (j := j) (by omega) hj
    refine ⟨fun i hi hne => ?_, ?_, fun x hx hO => ?_⟩
    · simp only [upOm, upd]; rw [if_neg (by omega)]; exact h1 i hi hne
    · simp only [upOm, upd]; rw [if_neg (by omega)]; exact h2
    · simp only [upOm, upd]; split
      · unfold upU addV; exact satV_bd _
      · exact h3 x hx hO
theorem upO_at {p h : Nat → Int} {r : Int} (hU : ∀ x, x < 276 → -1152921504606846976 ≤ p x ∧ p x ≤ 1152921504606846976) : ∀ j, j ≤ 24 →
    (∀ i, i < 24 → upO p h r j (276 + i) = if i < j then upD p h r i else p (276 + i)) ∧ ∀ x, x < 276 → -1152921504606846976 ≤ upO p h r j x ∧ upO p h r j x ≤ 1152921504606846976
  | 0, _ => ⟨fun i _ => by rw [if_neg (by omega)]; rfl, hU⟩
  | j + 1, hj => by
    obtain ⟨h1, h2⟩ := upO_at (p := p) (h := h) (r := r) hU j (by omega)
    obtain ⟨g1, g2, g3⟩ := upOm_at (O := upO p h r j) (p := p) (h := h) (r := r) (show j < 24 by omega) j (Nat.le_refl _)
    refine ⟨fun i hi => ?_, fun x hx => by simp only [upO]; exact g3 x hx (h2 x hx)⟩
    simp only [upO]
    by_cases e : i = j
    · subst e; rw [g2, if_pos (by omega)]
    · rw [g1 i hi e, h1 i hi]
      split <;> split <;> first | rfl | omega
/-- Learning: the answer is good; no D is greater than it was; what is measured has at least its own variance. -/
theorem upd_learns (p h : Nat → Int) (r : Int) : condH (updP p h r) = false ∧ (∀ i, i < 24 → updP p h r (276 + i) ≤ condF p (276 + i)) ∧ varV r ≤ updS p h r := by
  have hv := varV_bd r
  have hD : ∀ i, i < 24 → 1 ≤ condF p (276 + i) ∧ condF p (276 + i) ≤ 72057594037927936 := fun i _ => condF_D
  obtain ⟨h1, h2⟩ := upO_at (h := satS h 24) (r := varV r) (fun x hx => condF_U (f := p) hx) 24 (Nat.le_refl _)
  refine ⟨?_, fun i hi => ?_, (bkA_bd hD hv 24 (Nat.le_refl _)).1⟩
  · unfold condH
    rw [orB_no, orB_no]; rfl
    · intro i hi; exact satH_no (h2 i hi).1 (h2 i hi).2
    · intro i hi
      unfold updP
      rw [h1 i hi, if_pos hi]
      unfold upD
      have := varV_bd (mdivV (condF p (276 + i)) (bkA (condF p) (satS h 24) (varV r) i) (bkA (condF p) (satS h 24) (varV r) (i + 1)))
      exact (varV_id this.1 this.2).2
  · unfold updP
    rw [h1 i hi, if_pos hi]
    exact upD_le hD hv hi
/-- What is good stays as it is. -/
theorem cond_good {f : Nat → Int} (h : condH f = false) : ∀ x, x < 300 → condF f x = f x := by
  intro x hx
  unfold condH at h
  rw [Bool.or_eq_false_iff] at h
  unfold condF
  split
  · rename_i h1
    have := orB_false h.2 x h1
    simp only [satH, clampH] at this
    simp at this
    exact satV_id (by omega) (by omega)
  · rename_i h1
    have := orB_false h.1 (x - 276) (by omega)
    simp only [varH, clampH, show 276 + (x - 276) = x by omega] at this
    simp at this
    exact (varV_id (by omega) (by omega)).1
end Go.Proofs.Ytglpbcionohipaa
