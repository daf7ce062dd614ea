/- Contracts of the program's functions and plain laws, part 11: they hold for all arguments. -/
import Derived.Test.YtchholofnccbmaaQ10
import Derived.Test.YtchholofnccbmaaQ04
import Derived.Test.YtchholofnccbmaaQ06
import Derived.Test.YtchholofnccbmaaQ09
import Derived.Outline
/- bierman's plain laws (2): one state by itself, and the flags of a row of noughts. No program. -/
namespace Go.Proofs.Ytchholofnccbmaa
/-- One at the state k. -/
def pkF (k : Nat) : Nat → Int := fun i => if i = k then 1073741824 else 0
theorem satS_pk (k : Nat) : satS (pkF k) 24 = pkF k := by
  funext i; unfold satS pkF
  split
  · split
    · exact satV_one
    · exact satV_0
  · rfl
theorem addH_of {a b : Int} (h1 : -1152921504606846976 ≤ a) (h2 : a ≤ 1152921504606846976) (h3 : -1152921504606846976 ≤ b) (h4 : b ≤ 1152921504606846976) (h5 : -1152921504606846976 ≤ a + b) (h6 : a + b ≤ 1152921504606846976) :
    addV a b = a + b ∧ addH a b = false := by
  unfold addV addH
  rw [satV_id h1 h2, satV_id h3 h4, satV_id h5 h6, satH_no h1 h2, satH_no h3 h4, satH_no h5 h6]; exact ⟨rfl, rfl⟩
theorem mulH_z {e : Int} (h1 : -1152921504606846976 ≤ e) (h2 : e ≤ 1152921504606846976) {s : Int} (s0 : 0 ≤ s) (s1 : s ≤ 120) : mulH 0 e s = false := by
  unfold mulH
  have : rsh (satV 0 * satV e) s.toNat = 0 := by
    rw [satV_0, Int.zero_mul]; unfold rsh; exact rdiv_0 (Int.ne_of_gt (Int.pow_pos (by decide)))
  rw [this, satH_0, satH_no h1 h2]; simp; omega
theorem divH_z {b : Int} (h1 : 1 ≤ b) (h2 : b ≤ 1152921504606846976) {s : Int} (s0 : 0 ≤ s) (s1 : s ≤ 66) : divH 0 b s = false := by
  unfold divH byH
  rw [satV_0, Int.zero_mul, satH_0, satV_id (by omega) h2, rdiv_0 (by omega), satH_0, satH_no (by omega) h2]; simp; omega
theorem dotH_z {B : Nat → Int} {n : Nat} (hB : ∀ i, i < n → satH (B i) = false) : dotH 30 (fun _ => 0) B n = false := by
  unfold dotH
  rw [if_neg (by decide), dotB_no fun i hi => ⟨satH_0, hB i hi⟩, dotS_no fun i _ => .inl rfl, show (30 : Int).toNat = 30 from rfl, rsh_0, satH_0]; rfl
theorem colF_bd {p : Nat → Int} (hU : ∀ x, x < 276 → -1152921504606846976 ≤ p x ∧ p x ≤ 1152921504606846976) {j : Nat} (hj : j < 24) (m : Nat) : satH (colF p j m) = false := by
  unfold colF
  split
  · have := uV_bd hU (i := m) hj; exact satH_no this.1 this.2
  · exact satH_0
theorem updH_nothing (p : Nat → Int) (r : Int) : updH p (fun _ => 0) r = (condH p || varH r) ∧ lkH p (fun _ => 0) r = (condH p || varH r) := by
  have hv := varV_bd r
  have hU : ∀ x, x < 276 → -1152921504606846976 ≤ condF p x ∧ condF p x ≤ 1152921504606846976 := fun x h => condF_U h
  have hD : ∀ i, i < 24 → 1 ≤ condF p (276 + i) ∧ condF p (276 + i) ≤ 72057594037927936 := fun i _ => condF_D
  have e1 : lkH p (fun _ => 0) r = (condH p || varH r) := by
    unfold lkH
    rw [satS_0, orB_no (p := fun i => satH 0) fun i _ => satH_0, orB_no (p := bkS _ _ _)]
    · simp
    · intro j hj
      have := hD j hj
      unfold bkS bkFH bkVH bkAH
      rw [dotH_z fun i _ => colF_bd hU hj i, bkF_0, bkV_0, mulH_comm, mulH_z (by omega) (by omega) (by decide) (by decide), mulH_z (by omega) (by omega) (by decide) (by decide), mulV_z, bkA_0 hv, (addV_0l (by omega) (by omega)).2]; rfl
  refine ⟨?_, e1⟩
  unfold updH
  rw [e1, satS_0, orB_no (p := upCH _ _ _), orB_no (p := upGH _ _ _)]
  · simp
  · intro i hi
    unfold upGH
    rw [upB_0, bkA_0 hv]
    exact divH_z (by omega) (by omega) (by decide) (by decide)
  · intro j hj
    have h := hD j hj
    unfold upCH upDH upXH
    rw [bkA_0 hv, bkA_0 hv, bkF_0, divH_z (by omega) (by omega) (by decide) (by decide), orB_no]
    · unfold mdivV mdivH byV byH
      rw [satV_id (a := varV r) (by omega) (by omega), if_neg (by omega), satV_id (a := condF p (276 + j)) (by omega) (by omega), rdiv_self_mul (by omega), satV_id (by omega) (by omega), satH_no (by omega) (by omega), satH_no (by omega) (by omega), (varV_id h.1 h.2).2]
      simp; omega
    · intro i hi
      have hu := uV_bd hU (i := i) hj
      unfold upRH upUH upBH
      rw [upB_0, mulV_z, upX_0 hv, bkV_0, mulH_z (by omega) (by omega) (by decide) (by decide), (addV_0l hu.1 hu.2).2, mulH_comm, mulH_z hu.1 hu.2 (by decide) (by decide), mulV_comm, mulV_z, (addV_0l (by omega) (by omega)).2]; rfl
section
variable {p : Nat → Int} (hp : DiagF p) {k : Nat} (hk : k < 24) {r : Int} (hr : 1 ≤ r ∧ r ≤ 72057594037927936) (hd : p (276 + k) ≤ 72057594037927936)
theorem colF_d1 (hp : DiagF p) {j : Nat} (hj : j < 24) : colF p j = fun m => if m = j then 1073741824 else 0 := by
  funext m; exact colF_diag hp.1 hj
include hp in
theorem bkF_1 {j : Nat} (hj : j < 24) : bkF p (pkF k) j = (if j = k then 1073741824 else 0) ∧ bkFH p (pkF k) j = false := by
  have hb : dotB (pkF k) (colF p j) (j + 1) = false := by
    refine dotB_no fun i hi => ⟨?_, ?_⟩
    · unfold pkF; split; exact satH_one; exact satH_0
    · rw [colF_diag hp.1 hj]; split; exact satH_one; exact satH_0
  have hs : dotS (pkF k) (colF p j) (j + 1) = if j = k then 1073741824 * 1073741824 else 0 := by
    rw [dotS_1 (a := j) (by omega)]
    · rw [colF_diag hp.1 hj, if_pos rfl]
      unfold pkF
      split
      · rw [satV_one]
      · rw [satV_0, Int.zero_mul]
    · intro i hi hne
      right; rw [colF_diag hp.1 hj, if_neg hne]
  unfold bkF bkFH dotV dotH
  rw [if_neg (by decide : ¬ ((30 : Int) < 0 ∨ (120 : Int) < 30)), if_neg (by decide : ¬ ((30 : Int) < 0 ∨ (120 : Int) < 30)), hb, hs, show (30 : Int).toNat = 30 from rfl]
  split
  · rw [rsh_mul]; exact ⟨satV_one, by rw [satH_one]; rfl⟩
  · rw [rsh_0]; exact ⟨satV_0, by rw [satH_0]; rfl⟩
include hp in
theorem bkV_1 {j : Nat} (hj : j < 24) : bkV p (pkF k) j = (if j = k then p (276 + k) else 0) ∧ bkVH p (pkF k) j = false := by
  have h := hp.2 j hj
  unfold bkV bkVH
  rw [(bkF_1 hp hj).1]
  split
  · rename_i e
    subst e
    rw [mulV_comm, mulH_comm]
    exact ⟨mulV_one (by omega) (by omega), mulH_one (by omega) (by omega)⟩
  · rw [mulV_comm, mulH_comm]
    exact ⟨mulV_z _ _, mulH_z (by omega) (by omega) (by decide) (by decide)⟩
include hp hr hd hk in
theorem bkA_1 : ∀ j, j ≤ 24 → bkA p (pkF k) r j = if k < j then r + p (276 + k) else r
  | 0, _ => by simp [bkA]
  | j + 1, hj => by
    have hj' : j < 24 := by omega
    have h := hp.2 k hk
    simp only [bkA]
    rw [bkA_1 j (by omega), (bkF_1 hp hj').1, (bkV_1 hp hj').1]
    by_cases e : j = k
    · subst e
      rw [if_pos rfl, if_pos rfl, if_neg (by omega), if_pos (by omega), mulV_one (by omega) (by omega)]
      exact (addH_of (by omega) (by omega) (by omega) (by omega) (by omega) (by omega)).1
    · rw [if_neg e, mulV_z]
      split
      · rw [if_pos (by omega)]; exact (addV_0l (by omega) (by omega)).1
      · rw [if_neg (by omega)]; exact (addV_0l (by omega) (by omega)).1
include hp hr hd hk in
theorem bkS_1 {j : Nat} (hj : j < 24) : bkS p (pkF k) r j = false := by
  have h := hp.2 k hk
  unfold bkS bkAH
  rw [(bkF_1 hp hj).2, (bkV_1 hp hj).2, (bkF_1 hp hj).1, (bkV_1 hp hj).1, bkA_1 hp hk hr hd j (by omega)]
  by_cases e : j = k
  · rw [if_pos e, if_pos e, if_neg (by omega), mulH_one (by omega) (by omega), mulV_one (by omega) (by omega), (addH_of (by omega) (by omega) (by omega) (by omega) (by omega) (by omega)).2]; rfl
  · rw [if_neg e, if_neg e, mulH_z (by omega) (by omega) (by decide) (by decide), mulV_z]
    split
    · rw [(addV_0l (by omega) (by omega)).2]; rfl
    · rw [(addV_0l (by omega) (by omega)).2]; rfl
include hp in
theorem upB_1 : ∀ j, j ≤ 24 → ∀ i, i < 24 → upB p (pkF k) j i = if k < j ∧ i = k then p (276 + k) else 0
  | 0, _, i, _ => by simp [upB]
  | j + 1, hj, i, hi => by
    have hu : ∀ i, i < j → uV p i j = 0 := fun i hij => by
      unfold uV; rw [if_neg (by omega), if_pos hij]; exact hp.1 _ (pl_lt hij (by omega))
    have hB := upB_1 j (by omega) i hi
    simp only [upB]
    rw [hB, (bkV_1 hp (by omega)).1]
    by_cases e : i = j
    · rw [if_pos e]
      split <;> split <;> first | rfl | omega
    · rw [if_neg e]
      by_cases e2 : i < j
      · rw [if_pos e2, hu i e2, mulV_z]
        split
        · have := hp.2 k (by omega)
          rw [if_pos (by omega)]; exact (addV_0l (by omega) (by omega)).1
        · rw [if_neg (by omega)]; exact (addV_0l (by omega) (by omega)).1
      · rw [if_neg e2]
        split <;> split <;> first | rfl | omega
include hp hr hd hk in
theorem upDone {j : Nat} (hj : j < 24) : upD p (pkF k) r j = (if j = k then mdivV (p (276 + k)) r (p (276 + k) + r) else p (276 + j)) ∧ upDH p (pkF k) r j = false := by
  have h := hp.2 j hj
  have hk2 := hp.2 k hk
  have hA := bkA_1 hp hk hr hd j (by omega)
  have hA1 := bkA_1 hp hk hr hd (j + 1) (by omega)
  by_cases e : j = k
  · subst e
    rw [if_neg (by omega)] at hA
    rw [if_pos (by omega)] at hA1
    have hs : satV (p (276 + j) + r) = p (276 + j) + r := satV_id (by omega) (by omega)
    have hx : 0 ≤ rdiv (p (276 + j) * r) (p (276 + j) + r) := rdiv_nonneg (Int.mul_nonneg (by omega) (by omega)) (by omega)
    have hy : rdiv (p (276 + j) * r) (p (276 + j) + r) ≤ p (276 + j) := rdiv_le (by omega) (Int.mul_le_mul_of_nonneg_left (by omega) (by omega)) (by omega)
    have hz : 1 ≤ rdiv (p (276 + j) * r) (p (276 + j) + r) := by
      unfold rdiv
      rw [if_pos (by simp [Int.mul_nonneg (show 0 ≤ p (276 + j) by omega) (show 0 ≤ r by omega)]; omega)]
      have : 1 ≤ (2 * (p (276 + j) * r).natAbs + (p (276 + j) + r).natAbs) / (2 * (p (276 + j) + r).natAbs) := by
        rw [Nat.le_div_iff_mul_le (by omega), Nat.one_mul]
        have h2 : (p (276 + j) + r).natAbs ≤ 2 * (p (276 + j) * r).natAbs := by
          rw [Int.natAbs_mul]
          have a1 : 1 ≤ (p (276 + j)).natAbs := by omega
          have a2 : 1 ≤ r.natAbs := by omega
          have e1 : (p (276 + j)).natAbs ≤ (p (276 + j)).natAbs * r.natAbs := Nat.le_mul_of_pos_right _ a2
          have e2 : r.natAbs ≤ (p (276 + j)).natAbs * r.natAbs := Nat.le_mul_of_pos_left _ a1
          omega
        omega
      omega
    have hm : mdivV (p (276 + j)) r (p (276 + j) + r) = rdiv (p (276 + j) * r) (p (276 + j) + r) := by
      unfold mdivV byV
      rw [hs, satV_id (a := p (276 + j)) (by omega) (by omega), satV_id (a := r) (by omega) (by omega), if_neg (by omega), satV_id (by omega) (by omega)]
    unfold upD upDH
    rw [hA, hA1, Int.add_comm r, if_pos rfl, hm, (varV_id hz (by omega)).1, (varV_id hz (by omega)).2]
    refine ⟨rfl, ?_⟩
    unfold mdivH byH
    rw [hs, satV_id (a := p (276 + j)) (by omega) (by omega), satV_id (a := r) (by omega) (by omega), satH_no (a := p (276 + j)) (by omega) (by omega), satH_no (a := r) (by omega) (by omega), satH_no (a := p (276 + j) + r) (by omega) (by omega), satH_no (by omega) (by omega)]
    simp; omega
  · have hAA : bkA p (pkF k) r (j + 1) = bkA p (pkF k) r j := by
      rw [hA, hA1]
      split <;> split <;> first | rfl | omega
    have hb : 1 ≤ bkA p (pkF k) r j ∧ bkA p (pkF k) r j ≤ 1152921504606846976 := by
      rw [hA]; split <;> omega
    unfold upD upDH mdivV mdivH byV byH
    rw [hAA, satV_id (a := bkA p (pkF k) r j) (by omega) (by omega), if_neg (by omega), satV_id (a := p (276 + j)) (by omega) (by omega), rdiv_self_mul (by omega), satV_id (by omega) (by omega), if_neg e, satH_no (a := p (276 + j)) (by omega) (by omega), satH_no (a := bkA p (pkF k) r j) (by omega) hb.2, (varV_id h.1 h.2).1, (varV_id h.1 h.2).2]
    refine ⟨rfl, ?_⟩
    simp; omega
include hp hr hd hk in
theorem upX_1 {j : Nat} (hj : j < 24) (hne : j ≠ k) : upX p (pkF k) r j = 0 ∧ upXH p (pkF k) r j = false := by
  have hA := bkA_1 hp hk hr hd j (by omega)
  have h := hp.2 k hk
  have hb : 1 ≤ bkA p (pkF k) r j ∧ bkA p (pkF k) r j ≤ 1152921504606846976 := by rw [hA]; split <;> omega
  unfold upX upXH
  rw [(bkF_1 hp hj).1, if_neg hne, divV_z (by rw [satV_id (by omega) hb.2]; omega), divH_z hb.1 hb.2 (by decide) (by decide)]
  exact ⟨rfl, rfl⟩
theorem satH_satV (a : Int) : satH (satV a) = false := satH_no (satV_bd a).1 (satV_bd a).2
theorem byV_bd (x d : Int) : -1152921504606846976 ≤ byV x d ∧ byV x d ≤ 1152921504606846976 := by
  unfold byV; split
  · split
    · omega
    · split <;> omega
  · exact satV_bd _
theorem divV_bd (a b s : Int) : -1152921504606846976 ≤ divV a b s ∧ divV a b s ≤ 1152921504606846976 := by
  unfold divV; split
  · omega
  · exact byV_bd _ _
theorem upX_bd (p h : Nat → Int) (r : Int) (j : Nat) : -1152921504606846976 ≤ upX p h r j ∧ upX p h r j ≤ 1152921504606846976 := by
  have := divV_bd (bkF p h j) (bkA p h r j) 44
  unfold upX; omega
include hp hr hd hk in
theorem upU_1 {j i : Nat} (hj : j < 24) (hi : i < j) : upU p (pkF k) r j i = 0 ∧ upRH p (pkF k) r j i = false := by
  have h := hp.2 k hk
  have hu : uV p i j = 0 := by unfold uV; rw [if_neg (by omega), if_pos hi]; exact hp.1 _ (pl_lt hi hj)
  have hB := upB_1 (p := p) (k := k) hp j (by omega) i (by omega)
  have hv := (bkV_1 hp (k := k) hj).1
  have hx := upX_bd p (pkF k) r j
  have hbb : -1152921504606846976 ≤ upB p (pkF k) j i ∧ upB p (pkF k) j i ≤ 1152921504606846976 := by rw [hB]; split <;> omega
  have hvb : -1152921504606846976 ≤ bkV p (pkF k) j ∧ bkV p (pkF k) j ≤ 1152921504606846976 := by rw [hv]; split <;> omega
  have hm : mulV (upB p (pkF k) j i) (upX p (pkF k) r j) 44 = 0 ∧ mulH (upB p (pkF k) j i) (upX p (pkF k) r j) 44 = false := by
    by_cases e : j = k
    · rw [hB, if_neg (by omega)]
      exact ⟨mulV_z _ _, mulH_z hx.1 hx.2 (by decide) (by decide)⟩
    · rw [(upX_1 hp hk hr hd hj e).1, mulV_comm, mulH_comm]
      exact ⟨mulV_z _ _, mulH_z hbb.1 hbb.2 (by decide) (by decide)⟩
  unfold upU upRH upUH upBH
  rw [hm.1, hm.2, hu, mulV_z, mulH_z hvb.1 hvb.2 (by decide) (by decide), (addV_0l (by omega) (by omega)).1, (addV_0l (by omega) (by omega)).2, (addV_0l hbb.1 hbb.2).2]
  exact ⟨rfl, rfl⟩
include hp hr hd hk in
theorem upOm_1 {O : Nat → Int} (hO : ∀ x, x < 276 → O x = 0) {j : Nat} (hj : j < 24) : ∀ m, m ≤ j → ∀ x, x < 276 → upOm O p (pkF k) r j m x = 0
  | 0, _, x, hx => by simp only [upOm, upd]; rw [if_neg (by omega)]; exact hO x hx
  | m + 1, hm, x, hx => by
    simp only [upOm, upd]
    split
    · exact (upU_1 hp hk hr hd hj (by omega)).1
    · exact upOm_1 hO hj m (by omega) x hx
include hp hr hd hk in
theorem upO_1 : ∀ j, j ≤ 24 → ∀ x, x < 276 → upO p (pkF k) r j x = 0
  | 0, _, x, hx => hp.1 x hx
  | j + 1, hj, x, hx => by simp only [upO]; exact upOm_1 hp hk hr hd (upO_1 j (by omega)) (by omega) j (Nat.le_refl _) x hx
end
theorem rdiv_abs_le {x d m : Int} (hd : 0 < d) (h1 : x ≤ m * d) (h2 : -(m * d) ≤ x) (hm : 0 ≤ m) : -m ≤ rdiv x d ∧ rdiv x d ≤ m := by
  have h3 := rdiv_le hd (x := -x) (m := m) (by omega) hm
  rw [rdiv_neg1] at h3
  exact ⟨by omega, rdiv_le hd h1 hm⟩
/-- A state by itself, measured by itself. -/
theorem upd_one {p : Nat → Int} (hp : DiagF p) {k : Nat} (hk : k < 24) {r : Int} (hr : 1 ≤ r ∧ r ≤ 72057594037927936) (hd : p (276 + k) ≤ 72057594037927936) :
    (∀ x, x < 276 → updP p (pkF k) r x = 0) ∧ (∀ i, i < 24 → updP p (pkF k) r (276 + i) = if i = k then mdivV (p (276 + k)) r (p (276 + k) + r) else p (276 + i)) ∧
    (∀ i, i < 24 → updG p (pkF k) r i = if i = k then divV (p (276 + k)) (p (276 + k) + r) 30 else 0) ∧ updS p (pkF k) r = p (276 + k) + r ∧
    lkH p (pkF k) r = false ∧ (1048576 ≤ r → updH p (pkF k) r = false) := by
  have hc := cond_diag hp
  have hp' : DiagF (condF p) := ⟨fun x hx => by rw [hc.1 x (by omega)]; exact hp.1 x hx, fun i hi => by rw [hc.1 _ (by omega)]; exact hp.2 i hi⟩
  have hpk : condF p (276 + k) = p (276 + k) := hc.1 _ (by omega)
  have hd' : condF p (276 + k) ≤ 72057594037927936 := by rw [hpk]; exact hd
  have hv := varV_id (a := r) (by omega) (by omega)
  have h := hp.2 k hk
  have hU : ∀ x, x < 276 → -1152921504606846976 ≤ condF p x ∧ condF p x ≤ 1152921504606846976 := fun x hx => condF_U hx
  have hA := bkA_1 hp' hk hr hd' 24 (Nat.le_refl _)
  rw [if_pos hk, hpk] at hA
  have hlk : lkH p (pkF k) r = false := by
    unfold lkH
    rw [satS_pk, hc.2, hv.1, hv.2, orB_no, orB_no]; rfl
    · intro j hj; exact bkS_1 hp' hk hr hd' hj
    · intro i hi; unfold pkF; split; exact satH_one; exact satH_0
  refine ⟨fun x hx => ?_, fun i hi => ?_, fun i hi => ?_, ?_, hlk, fun hr2 => ?_⟩
  · unfold updP; rw [satS_pk, hv.1]; exact upO_1 hp' hk hr hd' 24 (Nat.le_refl _) x hx
  · unfold updP
    rw [satS_pk, hv.1, (upO_at hU 24 (Nat.le_refl _)).1 i hi, if_pos hi, (upDone hp' hk hr hd' hi).1, hpk, hc.1 _ (by omega)]
  · unfold updG upG
    rw [satS_pk, hv.1, upB_1 hp' 24 (Nat.le_refl _) i hi, hA, hpk, Int.add_comm r]
    by_cases e : i = k
    · rw [if_pos ⟨hk, e⟩, if_pos e]
    · rw [if_neg (by omega), if_neg e, divV_z (by rw [satV_id (by omega) (by omega)]; omega)]
  · unfold updS; rw [satS_pk, hv.1, hA, Int.add_comm]
  · unfold updH
    rw [hlk, satS_pk, hv.1, orB_no, orB_no]; rfl
    · intro i hi
      unfold upGH
      rw [upB_1 hp' 24 (Nat.le_refl _) i hi, hA, hpk]
      split
      · unfold divH byH
        rw [satV_id (a := r + p (276 + k)) (by omega) (by omega), satV_id (a := p (276 + k)) (by omega) (by omega), satH_no (a := p (276 + k)) (by omega) (by omega), satH_no (a := r + p (276 + k)) (by omega) (by omega)]
        have h30 : (2 : Int) ^ (30 : Int).toNat = 1073741824 := by decide
        rw [h30]
        have hb := rdiv_abs_le (x := p (276 + k) * 1073741824) (d := r + p (276 + k)) (m := 1073741824) (by omega) (by omega) (by omega) (by decide)
        rw [satH_no (by omega) (by omega)]
        simp; omega
      · exact divH_z (by omega) (by omega) (by decide) (by decide)
    · intro j hj
      unfold upCH
      rw [(upDone hp' hk hr hd' hj).2, orB_no fun i hi => (upU_1 hp' hk hr hd' hj hi).2]
      by_cases e : j = k
      · subst e
        have hA0 := bkA_1 hp' hk hr hd' j (by omega)
        rw [if_neg (by omega)] at hA0
        unfold upXH
        rw [(bkF_1 hp' hk).1, if_pos rfl, hA0]
        unfold divH byH
        rw [satV_one, satV_id (a := r) (by omega) (by omega), satH_one, satH_no (a := r) (by omega) (by omega)]
        have h44 : (1073741824 : Int) * 2 ^ (44 : Int).toNat = 18889465931478580854784 := by decide
        rw [h44]
        have hb := rdiv_abs_le (x := 18889465931478580854784) (d := r) (m := 1152921504606846976) (by omega) (by omega) (by omega) (by decide)
        rw [satH_no (by omega) (by omega)]
        simp; omega
      · rw [(upX_1 hp' hk hr hd' hj e).2]; rfl
end Go.Proofs.Ytchholofnccbmaa
/- thornton.Step's answer is good. No program. -/
namespace Go.Proofs.Ytchholofnccbmaa
theorem outI_good (O W e : Nat → Int) {j : Nat} (hj : j < 24) : ∀ m, m ≤ j →
    (∀ x, x < 276 → (-1152921504606846976 ≤ O x ∧ O x ≤ 1152921504606846976) → -1152921504606846976 ≤ outI O W e j m x ∧ outI O W e j m x ≤ 1152921504606846976) ∧
    (∀ i, i ≠ j → outI O W e j m (276 + i) = O (276 + i)) ∧ outI O W e j m (276 + j) = stD W e j
  | 0, _ => by
    refine ⟨fun x hx h => ?_, fun i hi => ?_, ?_⟩
    · simp only [outI, upd]; rw [if_neg (by omega)]; exact h
    · simp only [outI, upd]; rw [if_neg (by omega)]
    · simp only [outI, upd, if_true]
  | m + 1, hm => by
    obtain ⟨h1, h2, h3⟩ := outI_good O W e hj m (by omega)
    have hp := pl_lt (i := m) (j := j) (by omega) hj
    refine ⟨fun x hx h => ?_, fun i hi => ?_, ?_⟩
    · simp only [outI, upd]
      split
      · unfold stU; exact divV_bd _ _ _
      · exact h1 x hx h
    · simp only [outI, upd]; rw [if_neg (by omega)]; exact h2 i hi
    · simp only [outI, upd]; rw [if_neg (by omega)]; exact h3
theorem ON_good (W e : Nat → Int) : ∀ n, n ≤ 24 → (∀ x, x < 276 → -1152921504606846976 ≤ ON W e n x ∧ ON W e n x ≤ 1152921504606846976) ∧
    ∀ i, i < 24 → 24 - n ≤ i → 1 ≤ ON W e n (276 + i) ∧ ON W e n (276 + i) ≤ 72057594037927936
  | 0, _ => ⟨fun x _ => by simp only [ON]; omega, fun i h1 h2 => by omega⟩
  | n + 1, hn => by
    obtain ⟨h1, h2⟩ := ON_good W e n (by omega)
    obtain ⟨g1, g2, g3⟩ := outI_good (ON W e n) (WN W e n) e (j := 23 - n) (by omega) (23 - n) (Nat.le_refl _)
    refine ⟨fun x hx => by simp only [ON]; exact g1 x hx (h1 x hx), fun i hi hi2 => ?_⟩
    simp only [ON]
    by_cases e1 : i = 23 - n
    · subst e1
      rw [g3]
      unfold stD
      exact varV_bd _
    · rw [g2 i e1]; exact h2 i hi (by omega)
theorem good_of {f : Nat → Int} (h1 : ∀ x, x < 276 → -1152921504606846976 ≤ f x ∧ f x ≤ 1152921504606846976) (h2 : ∀ i, i < 24 → 1 ≤ f (276 + i) ∧ f (276 + i) ≤ 72057594037927936) : condH f = false := by
  unfold condH
  rw [orB_no, orB_no]; rfl
  · intro i hi; exact satH_no (h1 i hi).1 (h1 i hi).2
  · intro i hi; exact (varV_id (h2 i hi).1 (h2 i hi).2).2
theorem step_good (f F q : Nat → Int) : condH (stepF f F q) = false := by
  obtain ⟨h1, h2⟩ := ON_good (stepW f F) (stepE f q) 24 (Nat.le_refl _)
  exact good_of h1 fun i hi => h2 i hi (by omega)
end Go.Proofs.Ytchholofnccbmaa
/- thornton.Step of variances alone, One and one number more: what comes out (plain law, 1). No program. -/
namespace Go.Proofs.Ytchholofnccbmaa
def atU (f : Nat → Int) (i m : Nat) : Nat → Int := fun q => uV f i (m + q)
def atX (f : Nat → Int) (j m : Nat) : Nat → Int := fun q => mulV (uV f j (m + q)) (f (276 + (m + q))) 30
def atV (f : Nat → Int) (i j : Nat) : Int := dotV 30 (atU f i (max i j)) (atX f j (max i j)) (24 - max i j)
def atB (f : Nat → Int) (j m : Nat) : Nat → Bool := fun q => mulH (uV f j (m + q)) (f (276 + (m + q))) 30
def atH (f : Nat → Int) (i j : Nat) : Bool := orB (atB f j (max i j)) (24 - max i j) || dotH 30 (atU f i (max i j)) (atX f j (max i j)) (24 - max i j)
def SB (x : Int) : Prop := -1152921504606846976 ≤ x ∧ x ≤ 1152921504606846976
theorem satV_sb {x : Int} (h : SB x) : satV x = x := satV_id h.1 h.2
theorem satH_sb {x : Int} (h : SB x) : satH x = false := satH_no h.1 h.2
theorem sb_0 : SB 0 := by unfold SB; omega
theorem sb_one : SB 1073741824 := by unfold SB; omega
/-- A stage that leaves the rows: those ahead have nothing in common with row j. -/
theorem stage_q {W e : Nat → Int} {j : Nat} (hj : j < 24) (hW : ∀ x, x < 1152 → SB (W x)) (_he : ∀ k, k < 48 → SB (e k))
    (hY : ∀ i, i < j → ∀ k, k < 48 → W (i * 48 + k) = 0 ∨ stY W e j k = 0) (hY2 : ∀ k, k < 48 → SB (stY W e j k)) (hy : ∀ k, k < 48 → yB W e j k = false) (hd : dB W e j = false) :
    (∀ x, x < 1152 → elW W e j j 0 x = W x) ∧ (∀ i, i < j → stU W e j i = 0) ∧ stageH W e j = false := by
  have hD : 1 ≤ stD W e j ∧ stD W e j ≤ 72057594037927936 := by unfold stD; exact varV_bd _
  have hz : ∀ i, i < j → dotS (rowF 48 W i) (stY W e j) 48 = 0 := fun i hi => dotS_no fun k hk => hY i hi k hk
  have hu : ∀ i, i < j → stU W e j i = 0 := by
    intro i hi
    unfold stU dotV
    rw [if_neg (by decide), hz i hi, show (30 : Int).toNat = 30 from rfl, rsh_0, satV_0]
    exact divV_z (by rw [satV_id (by omega) (by omega)]; omega) _
  have huB : ∀ i, i < j → uB W e j i = false := by
    intro i hi
    unfold uB dotV dotH
    rw [if_neg (by decide), if_neg (by decide), hz i hi, show (30 : Int).toNat = 30 from rfl, rsh_0, satV_0, satH_0, divH_z hD.1 (by omega) (by decide) (by decide)]
    rw [dotB_no (A := rowF 48 W i) fun k hk => ⟨satH_sb (hW (i * 48 + k) (by omega)), satH_sb (hY2 k hk)⟩]; rfl
  refine ⟨fun x hx => ?_, hu, ?_⟩
  · unfold elW
    split
    · unfold elV
      rw [hu _ (by omega), mulV_0, show x / 48 * 48 + x % 48 = x by omega]
      exact subV_0 (hW x hx).1 (hW x hx).2
    · rfl
  · unfold stageH
    rw [hd, orB_no hy, orB_no]; rfl
    intro i hi
    unfold rowB
    rw [huB i hi, orB_no]; rfl
    intro k hk
    have h1 := hW (j * 48 + k) (by omega)
    have h2 := hW (i * 48 + k) (by omega)
    unfold elB
    rw [hu i hi, mulV_0, mulH_0 h1.1 h1.2, subH_0 h2.1 h2.2]; rfl
/-- Row j is One at j and at 24 + j alone. -/
theorem plain_row {W e : Nat → Int} {j : Nat} (hj : j < 24) (hr : ∀ k, k < 48 → W (j * 48 + k) = if k = j ∨ k = 24 + j then 1073741824 else 0) (he : ∀ k, k < 48 → SB (e k)) (h24 : e (24 + j) = 0) (h1 : 1 ≤ e j ∧ e j ≤ 72057594037927936) :
    (∀ k, k < 48 → stY W e j k = if k = j then e j else 0) ∧ (∀ k, k < 48 → yB W e j k = false) ∧ dotS (rowF 48 W j) (stY W e j) 48 = 1073741824 * e j := by
  have hY : ∀ k, k < 48 → stY W e j k = if k = j then e j else 0 := by
    intro k hk
    unfold stY
    rw [hr k hk]
    have := he k hk
    by_cases e1 : k = j
    · rw [if_pos (.inl e1), if_pos e1, e1]; exact mulV_one (by omega) (by omega)
    · rw [if_neg e1]
      by_cases e2 : k = 24 + j
      · rw [if_pos (.inr e2), e2, h24]; decide
      · rw [if_neg (by omega)]; exact mulV_0 _
  refine ⟨hY, fun k hk => ?_, ?_⟩
  · unfold yB
    rw [hr k hk]
    have := he k hk
    split
    · exact mulH_one this.1 this.2
    · exact mulH_0 this.1 this.2
  · rw [dotS_1 (a := j) (by omega)]
    · rw [hY j (by omega), if_pos rfl]
      simp only [rowF]
      rw [hr j (by omega), if_pos (.inl rfl), satV_one, satV_id (by omega) (by omega)]
    · intro k hk hne
      right; rw [hY k hk, if_neg hne]
theorem plain_D {W e : Nat → Int} {j : Nat} (hj : j < 24) (hW : ∀ x, x < 1152 → SB (W x)) (hr : ∀ k, k < 48 → W (j * 48 + k) = if k = j ∨ k = 24 + j then 1073741824 else 0) (he : ∀ k, k < 48 → SB (e k)) (h24 : e (24 + j) = 0) (h1 : 1 ≤ e j ∧ e j ≤ 72057594037927936) :
    stD W e j = e j ∧ dB W e j = false := by
  obtain ⟨hY, _, hS⟩ := plain_row hj hr he h24 h1
  have hb : dotB (rowF 48 W j) (stY W e j) 48 = false := dotB_no fun k hk => ⟨satH_sb (hW _ (by omega)), by rw [hY k hk]; split; exact satH_no (by omega) (by omega); exact satH_0⟩
  unfold stD dB dotV dotH
  rw [if_neg (by decide), if_neg (by decide), hS, hb, show (30 : Int).toNat = 30 from rfl, rsh_mul, satV_id (by omega) (by omega), satH_no (by omega) (by omega), (varV_id h1.1 h1.2).1, (varV_id h1.1 h1.2).2]
  exact ⟨rfl, rfl⟩
/-- A plain stage: row j is One alone, and no row ahead has a number at j. -/
theorem stage_plain {W e : Nat → Int} {j : Nat} (hj : j < 24) (hW : ∀ x, x < 1152 → SB (W x)) (hr : ∀ k, k < 48 → W (j * 48 + k) = if k = j ∨ k = 24 + j then 1073741824 else 0) (he : ∀ k, k < 48 → SB (e k)) (h24 : e (24 + j) = 0)
    (h1 : 1 ≤ e j ∧ e j ≤ 72057594037927936) (hc : ∀ i, i < j → W (i * 48 + j) = 0) :
    (∀ x, x < 1152 → elW W e j j 0 x = W x) ∧ (∀ i, i < j → stU W e j i = 0) ∧ stageH W e j = false ∧ stD W e j = e j := by
  obtain ⟨hY, hy, _⟩ := plain_row hj hr he h24 h1
  obtain ⟨hD, hd⟩ := plain_D hj hW hr he h24 h1
  obtain ⟨a, b, c⟩ := stage_q hj hW he (fun i hi k hk => by
    by_cases e1 : k = j
    · left; rw [e1]; exact hc i hi
    · right; rw [hY k hk, if_neg e1]) (fun k hk => by rw [hY k hk]; split; exact he _ (by omega); exact sb_0) hy hd
  exact ⟨a, b, c, hD⟩
/-- The out so far, at a plain stage: D of row j, and noughts above it. -/
theorem outI_plain {O W e : Nat → Int} {j : Nat} (hj : j < 24) (hu : ∀ i, i < j → stU W e j i = 0) (hO : ∀ x, j * (j - 1) / 2 ≤ x → x < j * (j - 1) / 2 + j → O x = 0) : ∀ m, m ≤ j → ∀ x, outI O W e j m x = if x = 276 + j then stD W e j else O x
  | 0, _, x => by simp only [outI, upd]
  | m + 1, hm, x => by
    have ht := tri_le hj
    simp only [outI, upd]
    rw [outI_plain hj hu hO m (by omega) x, hu m (by omega)]
    split
    · rename_i h1
      unfold pl at h1
      rw [if_neg (by omega), hO x (by omega) (by omega)]
    · rfl
end Go.Proofs.Ytchholofnccbmaa
/- Contract of tri.At: a number of the covariance. -/
namespace Go.Proofs.Ytchholofnccbmaa
open Go.RowKit
set_option maxRecDepth 100000
theorem ownBlock_lt {w : World} {B T : Nat} {v : Value} {n : Nat} {L : Nat → Int} (h : Own w B T v n L) {g : Nat} (e : v.ownBlock = some g) : B ≤ g ∧ g < w.heap.size := World.ownsRow.lt h g e
theorem snoc_fun {n : Nat} {L : Nat → Int} {y : Int} (e : y = L n) : ∀ i, i < n + 1 → upd L n y i = L i := fun i _ => by
  unfold upd; split
  · rename_i h; rw [h, e]
  · rfl
end Go.Proofs.Ytchholofnccbmaa
