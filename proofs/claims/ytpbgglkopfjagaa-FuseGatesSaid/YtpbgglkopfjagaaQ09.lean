/- Contracts of the program's functions and plain laws, part 9: they hold for all arguments. -/
import Derived.Test.YtpbgglkopfjagaaQ08
import Derived.Test.YtpbgglkopfjagaaQ04
import Derived.Test.YtpbgglkopfjagaaQ05
import Derived.Outline
/- bierman's plain laws (2): one state by itself, and the flags of a row of noughts. No program. -/
namespace Go.Proofs.Ytpbgglkopfjagaa
/-- One at the state k. -/
def pkF (k : Nat) : Nat → Int := fun i => if i = k then 1073741824 else 0
theorem satS_pk (k : Nat) : satS (pkF k) 24 = pkF k := by
  funext i; unfold satS pkF
  split
  · split
    · exact satV_one
    · exact satV_0
  · rfl
theorem addH_of {a b : Int} (h1 : -1152921504606846976 ≤ a) (h2 : a ≤ 1152921504606846976) (h3 : -1152921504606846976 ≤ b) (h4 : b ≤ 1152921504606846976) (h5 : -1152921504606846976 ≤ a + b) (h6 : a + b ≤ 1152921504606846976) :
    addV a b = a + b ∧ addH a b = false := by
  unfold addV addH
  rw [satV_id h1 h2, satV_id h3 h4, satV_id h5 h6, satH_no h1 h2, satH_no h3 h4, satH_no h5 h6]; exact ⟨rfl, rfl⟩
theorem mulH_z {e : Int} (h1 : -1152921504606846976 ≤ e) (h2 : e ≤ 1152921504606846976) {s : Int} (s0 : 0 ≤ s) (s1 : s ≤ 120) : mulH 0 e s = false := by
  unfold mulH
  have : rsh (satV 0 * satV e) s.toNat = 0 := by
    rw [satV_0, Int.zero_mul]; unfold rsh; exact rdiv_0 (Int.ne_of_gt (Int.pow_pos (by decide)))
  rw [this, satH_0, satH_no h1 h2]; simp; omega
theorem divH_z {b : Int} (h1 : 1 ≤ b) (h2 : b ≤ 1152921504606846976) {s : Int} (s0 : 0 ≤ s) (s1 : s ≤ 66) : divH 0 b s = false := by
  unfold divH byH
  rw [satV_0, Int.zero_mul, satH_0, satV_id (by omega) h2, rdiv_0 (by omega), satH_0, satH_no (by omega) h2]; simp; omega
section
variable {p : Nat → Int} (hp : DiagF p) {k : Nat} (hk : k < 24) {r : Int} (hr : 1 ≤ r ∧ r ≤ 72057594037927936) (hd : p (276 + k) ≤ 72057594037927936)
include hp in
theorem bkF_1 {j : Nat} (hj : j < 24) : bkF p (pkF k) j = (if j = k then 1073741824 else 0) ∧ bkFH p (pkF k) j = false := by
  have hb : dotB (pkF k) (colF p j) (j + 1) = false := by
    refine dotB_no fun i hi => ⟨?_, ?_⟩
    · unfold pkF; split; exact satH_one; exact satH_0
    · rw [colF_diag hp.1 hj]; split; exact satH_one; exact satH_0
  have hs : dotS (pkF k) (colF p j) (j + 1) = if j = k then 1073741824 * 1073741824 else 0 := by
    rw [dotS_1 (a := j) (by omega)]
    · rw [colF_diag hp.1 hj, if_pos rfl]
      unfold pkF
      split
      · rw [satV_one]
      · rw [satV_0, Int.zero_mul]
    · intro i hi hne
      right; rw [colF_diag hp.1 hj, if_neg hne]
  unfold bkF bkFH dotV dotH
  rw [if_neg (by decide : ¬ ((30 : Int) < 0 ∨ (120 : Int) < 30)), if_neg (by decide : ¬ ((30 : Int) < 0 ∨ (120 : Int) < 30)), hb, hs, show (30 : Int).toNat = 30 from rfl]
  split
  · rw [rsh_mul]; exact ⟨satV_one, by rw [satH_one]; rfl⟩
  · rw [rsh_0]; exact ⟨satV_0, by rw [satH_0]; rfl⟩
include hp in
theorem bkV_1 {j : Nat} (hj : j < 24) : bkV p (pkF k) j = (if j = k then p (276 + k) else 0) ∧ bkVH p (pkF k) j = false := by
  have h := hp.2 j hj
  unfold bkV bkVH
  rw [(bkF_1 hp hj).1]
  split
  · rename_i e
    subst e
    rw [mulV_comm, mulH_comm]
    exact ⟨mulV_one (by omega) (by omega), mulH_one (by omega) (by omega)⟩
  · rw [mulV_comm, mulH_comm]
    exact ⟨mulV_z _ _, mulH_z (by omega) (by omega) (by decide) (by decide)⟩
include hp hr hd hk in
theorem bkA_1 : ∀ j, j ≤ 24 → bkA p (pkF k) r j = if k < j then r + p (276 + k) else r
  | 0, _ => by simp [bkA]
  | j + 1, hj => by
    have hj' : j < 24 := by omega
    have h := hp.2 k hk
    simp only [bkA]
    rw [bkA_1 j (by omega), (bkF_1 hp hj').1, (bkV_1 hp hj').1]
    by_cases e : j = k
    · subst e
      rw [if_pos rfl, if_pos rfl, if_neg (by omega), if_pos (by omega), mulV_one (by omega) (by omega)]
      exact (addH_of (by omega) (by omega) (by omega) (by omega) (by omega) (by omega)).1
    · rw [if_neg e, mulV_z]
      split
      · rw [if_pos (by omega)]; exact (addV_0l (by omega) (by omega)).1
      · rw [if_neg (by omega)]; exact (addV_0l (by omega) (by omega)).1
include hp hr hd hk in
theorem bkS_1 {j : Nat} (hj : j < 24) : bkS p (pkF k) r j = false := by
  have h := hp.2 k hk
  unfold bkS bkAH
  rw [(bkF_1 hp hj).2, (bkV_1 hp hj).2, (bkF_1 hp hj).1, (bkV_1 hp hj).1, bkA_1 hp hk hr hd j (by omega)]
  by_cases e : j = k
  · rw [if_pos e, if_pos e, if_neg (by omega), mulH_one (by omega) (by omega), mulV_one (by omega) (by omega), (addH_of (by omega) (by omega) (by omega) (by omega) (by omega) (by omega)).2]; rfl
  · rw [if_neg e, if_neg e, mulH_z (by omega) (by omega) (by decide) (by decide), mulV_z]
    split
    · rw [(addV_0l (by omega) (by omega)).2]; rfl
    · rw [(addV_0l (by omega) (by omega)).2]; rfl
include hp in
theorem upB_1 : ∀ j, j ≤ 24 → ∀ i, i < 24 → upB p (pkF k) j i = if k < j ∧ i = k then p (276 + k) else 0
  | 0, _, i, _ => by simp [upB]
  | j + 1, hj, i, hi => by
    have hu : ∀ i, i < j → uV p i j = 0 := fun i hij => by
      unfold uV; rw [if_neg (by omega), if_pos hij]; exact hp.1 _ (pl_lt hij (by omega))
    have hB := upB_1 j (by omega) i hi
    simp only [upB]
    rw [hB, (bkV_1 hp (by omega)).1]
    by_cases e : i = j
    · rw [if_pos e]
      split <;> split <;> first | rfl | omega
    · rw [if_neg e]
      by_cases e2 : i < j
      · rw [if_pos e2, hu i e2, mulV_z]
        split
        · have := hp.2 k (by omega)
          rw [if_pos (by omega)]; exact (addV_0l (by omega) (by omega)).1
        · rw [if_neg (by omega)]; exact (addV_0l (by omega) (by omega)).1
      · rw [if_neg e2]
        split <;> split <;> first | rfl | omega
include hp hr hd hk in
theorem upDone {j : Nat} (hj : j < 24) : upD p (pkF k) r j = (if j = k then mdivV (p (276 + k)) r (p (276 + k) + r) else p (276 + j)) ∧ upDH p (pkF k) r j = false := by
  have h := hp.2 j hj
  have hk2 := hp.2 k hk
  have hA := bkA_1 hp hk hr hd j (by omega)
  have hA1 := bkA_1 hp hk hr hd (j + 1) (by omega)
  by_cases e : j = k
  · subst e
    rw [if_neg (by omega)] at hA
    rw [if_pos (by omega)] at hA1
    have hs : satV (p (276 + j) + r) = p (276 + j) + r := satV_id (by omega) (by omega)
    have hx : 0 ≤ rdiv (p (276 + j) * r) (p (276 + j) + r) := rdiv_nonneg (Int.mul_nonneg (by omega) (by omega)) (by omega)
    have hy : rdiv (p (276 + j) * r) (p (276 + j) + r) ≤ p (276 + j) := rdiv_le (by omega) (Int.mul_le_mul_of_nonneg_left (by omega) (by omega)) (by omega)
    have hz : 1 ≤ rdiv (p (276 + j) * r) (p (276 + j) + r) := by
      unfold rdiv
      rw [if_pos (by simp [Int.mul_nonneg (show 0 ≤ p (276 + j) by omega) (show 0 ≤ r by omega)]; omega)]
      have : 1 ≤ (2 * (p (276 + j) * r).natAbs + (p (276 + j) + r).natAbs) / (2 * (p (276 + j) + r).natAbs) := by
        rw [Nat.le_div_iff_mul_le (by omega), Nat.one_mul]
        have h2 : (p (276 + j) + r).natAbs ≤ 2 * (p (276 + j) * r).natAbs := by
          rw [Int.natAbs_mul]
          have a1 : 1 ≤ (p (276 + j)).natAbs := by omega
          have a2 : 1 ≤ r.natAbs := by omega
          have e1 : (p (276 + j)).natAbs ≤ (p (276 + j)).natAbs * r.natAbs := Nat.le_mul_of_pos_right _ a2
          have e2 : r.natAbs ≤ (p (276 + j)).natAbs * r.natAbs := Nat.le_mul_of_pos_left _ a1
          omega
        omega
      omega
    have hm : mdivV (p (276 + j)) r (p (276 + j) + r) = rdiv (p (276 + j) * r) (p (276 + j) + r) := by
      unfold mdivV byV
      rw [hs, satV_id (a := p (276 + j)) (by omega) (by omega), satV_id (a := r) (by omega) (by omega), if_neg (by omega), satV_id (by omega) (by omega)]
    unfold upD upDH
    rw [hA, hA1, Int.add_comm r, if_pos rfl, hm, (varV_id hz (by omega)).1, (varV_id hz (by omega)).2]
    refine ⟨rfl, ?_⟩
    unfold mdivH byH
    rw [hs, satV_id (a := p (276 + j)) (by omega) (by omega), satV_id (a := r) (by omega) (by omega), satH_no (a := p (276 + j)) (by omega) (by omega), satH_no (a := r) (by omega) (by omega), satH_no (a := p (276 + j) + r) (by omega) (by omega), satH_no (by omega) (by omega)]
    simp; omega
  · have hAA : bkA p (pkF k) r (j + 1) = bkA p (pkF k) r j := by
      rw [hA, hA1]
      split <;> split <;> first | rfl | omega
    have hb : 1 ≤ bkA p (pkF k) r j ∧ bkA p (pkF k) r j ≤ 1152921504606846976 := by
      rw [hA]; split <;> omega
    unfold upD upDH mdivV mdivH byV byH
    rw [hAA, satV_id (a := bkA p (pkF k) r j) (by omega) (by omega), if_neg (by omega), satV_id (a := p (276 + j)) (by omega) (by omega), rdiv_self_mul (by omega), satV_id (by omega) (by omega), if_neg e, satH_no (a := p (276 + j)) (by omega) (by omega), satH_no (a := bkA p (pkF k) r j) (by omega) hb.2, (varV_id h.1 h.2).1, (varV_id h.1 h.2).2]
    refine ⟨rfl, ?_⟩
    simp; omega
include hp hr hd hk in
theorem upX_1 {j : Nat} (hj : j < 24) (hne : j ≠ k) : upX p (pkF k) r j = 0 ∧ upXH p (pkF k) r j = false := by
  have hA := bkA_1 hp hk hr hd j (by omega)
  have h := hp.2 k hk
  have hb : 1 ≤ bkA p (pkF k) r j ∧ bkA p (pkF k) r j ≤ 1152921504606846976 := by rw [hA]; split <;> omega
  unfold upX upXH
  rw [(bkF_1 hp hj).1, if_neg hne, divV_z (by rw [satV_id (by omega) hb.2]; omega), divH_z hb.1 hb.2 (by decide) (by decide)]
  exact ⟨rfl, rfl⟩
theorem byV_bd (x d : Int) : -1152921504606846976 ≤ byV x d ∧ byV x d ≤ 1152921504606846976 := by
  unfold byV; split
  · split
    · omega
    · split <;> omega
  · exact satV_bd _
theorem divV_bd (a b s : Int) : -1152921504606846976 ≤ divV a b s ∧ divV a b s ≤ 1152921504606846976 := by
  unfold divV; split
  · omega
  · exact byV_bd _ _
theorem upX_bd (p h : Nat → Int) (r : Int) (j : Nat) : -1152921504606846976 ≤ upX p h r j ∧ upX p h r j ≤ 1152921504606846976 := by
  have := divV_bd (bkF p h j) (bkA p h r j) 44
  unfold upX; omega
include hp hr hd hk in
theorem upU_1 {j i : Nat} (hj : j < 24) (hi : i < j) : upU p (pkF k) r j i = 0 ∧ upRH p (pkF k) r j i = false := by
  have h := hp.2 k hk
  have hu : uV p i j = 0 := by unfold uV; rw [if_neg (by omega), if_pos hi]; exact hp.1 _ (pl_lt hi hj)
  have hB := upB_1 (p := p) (k := k) hp j (by omega) i (by omega)
  have hv := (bkV_1 hp (k := k) hj).1
  have hx := upX_bd p (pkF k) r j
  have hbb : -1152921504606846976 ≤ upB p (pkF k) j i ∧ upB p (pkF k) j i ≤ 1152921504606846976 := by rw [hB]; split <;> omega
  have hvb : -1152921504606846976 ≤ bkV p (pkF k) j ∧ bkV p (pkF k) j ≤ 1152921504606846976 := by rw [hv]; split <;> omega
  have hm : mulV (upB p (pkF k) j i) (upX p (pkF k) r j) 44 = 0 ∧ mulH (upB p (pkF k) j i) (upX p (pkF k) r j) 44 = false := by
    by_cases e : j = k
    · rw [hB, if_neg (by omega)]
      exact ⟨mulV_z _ _, mulH_z hx.1 hx.2 (by decide) (by decide)⟩
    · rw [(upX_1 hp hk hr hd hj e).1, mulV_comm, mulH_comm]
      exact ⟨mulV_z _ _, mulH_z hbb.1 hbb.2 (by decide) (by decide)⟩
  unfold upU upRH upUH upBH
  rw [hm.1, hm.2, hu, mulV_z, mulH_z hvb.1 hvb.2 (by decide) (by decide), (addV_0l (by omega) (by omega)).1, (addV_0l (by omega) (by omega)).2, (addV_0l hbb.1 hbb.2).2]
  exact ⟨rfl, rfl⟩
include hp hr hd hk in
theorem upOm_1 {O : Nat → Int} (hO : ∀ x, x < 276 → O x = 0) {j : Nat} (hj : j < 24) : ∀ m, m ≤ j → ∀ x, x < 276 → upOm O p (pkF k) r j m x = 0
  | 0, _, x, hx => by simp only [upOm, upd]; rw [if_neg (by omega)]; exact hO x hx
  | m + 1, hm, x, hx => by
    simp only [upOm, upd]
    split
    · exact (upU_1 hp hk hr hd hj (by omega)).1
    · exact upOm_1 hO hj m (by omega) x hx
include hp hr hd hk in
theorem upO_1 : ∀ j, j ≤ 24 → ∀ x, x < 276 → upO p (pkF k) r j x = 0
  | 0, _, x, hx => hp.1 x hx
  | j + 1, hj, x, hx => by simp only [upO]; exact upOm_1 hp hk hr hd (upO_1 j (by omega)) (by omega) j (Nat.le_refl _) x hx
end
theorem rdiv_abs_le {x d m : Int} (hd : 0 < d) (h1 : x ≤ m * d) (h2 : -(m * d) ≤ x) (hm : 0 ≤ m) : -m ≤ rdiv x d ∧ rdiv x d ≤ m := by
  have h3 := rdiv_le hd (x := -x) (m := m) (by omega) hm
  rw [rdiv_neg1] at h3
  exact ⟨by omega, rdiv_le hd h1 hm⟩
/-- A state by itself, measured by itself. -/
theorem upd_one {p : Nat → Int} (hp : DiagF p) {k : Nat} (hk : k < 24) {r : Int} (hr : 1 ≤ r ∧ r ≤ 72057594037927936) (hd : p (276 + k) ≤ 72057594037927936) :
    (∀ x, x < 276 → updP p (pkF k) r x = 0) ∧ (∀ i, i < 24 → updP p (pkF k) r (276 + i) = if i = k then mdivV (p (276 + k)) r (p (276 + k) + r) else p (276 + i)) ∧
    (∀ i, i < 24 → updG p (pkF k) r i = if i = k then divV (p (276 + k)) (p (276 + k) + r) 30 else 0) ∧ updS p (pkF k) r = p (276 + k) + r ∧
    lkH p (pkF k) r = false ∧ (1048576 ≤ r → updH p (pkF k) r = false) := by
  have hc := cond_diag hp
  have hp' : DiagF (condF p) := ⟨fun x hx => by rw [hc.1 x (by omega)]; exact hp.1 x hx, fun i hi => by rw [hc.1 _ (by omega)]; exact hp.2 i hi⟩
  have hpk : condF p (276 + k) = p (276 + k) := hc.1 _ (by omega)
  have hd' : condF p (276 + k) ≤ 72057594037927936 := by rw [hpk]; exact hd
  have hv := varV_id (a := r) (by omega) (by omega)
  have h := hp.2 k hk
  have hU : ∀ x, x < 276 → -1152921504606846976 ≤ condF p x ∧ condF p x ≤ 1152921504606846976 := fun x hx => condF_U hx
  have hA := bkA_1 hp' hk hr hd' 24 (Nat.le_refl _)
  rw [if_pos hk, hpk] at hA
  have hlk : lkH p (pkF k) r = false := by
    unfold lkH
    rw [satS_pk, hc.2, hv.1, hv.2, orB_no, orB_no]; rfl
    · intro j hj; exact bkS_1 hp' hk hr hd' hj
    · intro i hi; unfold pkF; split; exact satH_one; exact satH_0
  refine ⟨fun x hx => ?_, fun i hi => ?_, fun i hi => ?_, ?_, hlk, fun hr2 => ?_⟩
  · unfold updP; rw [satS_pk, hv.1]; exact upO_1 hp' hk hr hd' 24 (Nat.le_refl _) x hx
  · unfold updP
    rw [satS_pk, hv.1, (upO_at hU 24 (Nat.le_refl _)).1 i hi, if_pos hi, (upDone hp' hk hr hd' hi).1, hpk, hc.1 _ (by omega)]
  · unfold updG upG
    rw [satS_pk, hv.1, upB_1 hp' 24 (Nat.le_refl _) i hi, hA, hpk, Int.add_comm r]
    by_cases e : i = k
    · rw [if_pos ⟨hk, e⟩, if_pos e]
    · rw [if_neg (by omega), if_neg e, divV_z (by rw [satV_id (by omega) (by omega)]; omega)]
  · unfold updS; rw [satS_pk, hv.1, hA, Int.add_comm]
  · unfold updH
    rw [hlk, satS_pk, hv.1, orB_no, orB_no]; rfl
    · intro i hi
      unfold upGH
      rw [upB_1 hp' 24 (Nat.le_refl _) i hi, hA, hpk]
      split
      · unfold divH byH
        rw [satV_id (a := r + p (276 + k)) (by omega) (by omega), satV_id (a := p (276 + k)) (by omega) (by omega), satH_no (a := p (276 + k)) (by omega) (by omega), satH_no (a := r + p (276 + k)) (by omega) (by omega)]
        have h30 : (2 : Int) ^ (30 : Int).toNat = 1073741824 := by decide
        rw [h30]
        have hb := rdiv_abs_le (x := p (276 + k) * 1073741824) (d := r + p (276 + k)) (m := 1073741824) (by omega) (by omega) (by omega) (by decide)
        rw [satH_no (by omega) (by omega)]
        simp; omega
      · exact divH_z (by omega) (by omega) (by decide) (by decide)
    · intro j hj
      unfold upCH
      rw [(upDone hp' hk hr hd' hj).2, orB_no fun i hi => (upU_1 hp' hk hr hd' hj hi).2]
      by_cases e : j = k
      · subst e
        have hA0 := bkA_1 hp' hk hr hd' j (by omega)
        rw [if_neg (by omega)] at hA0
        unfold upXH
        rw [(bkF_1 hp' hk).1, if_pos rfl, hA0]
        unfold divH byH
        rw [satV_one, satV_id (a := r) (by omega) (by omega), satH_one, satH_no (a := r) (by omega) (by omega)]
        have h44 : (1073741824 : Int) * 2 ^ (44 : Int).toNat = 18889465931478580854784 := by decide
        rw [h44]
        have hb := rdiv_abs_le (x := 18889465931478580854784) (d := r) (m := 1152921504606846976) (by omega) (by omega) (by omega) (by decide)
        rw [satH_no (by omega) (by omega)]
        simp; omega
      · rw [(upX_1 hp' hk hr hd' hj e).2]; rfl
end Go.Proofs.Ytpbgglkopfjagaa
/- thornton.Step's answer is good. No program. -/
namespace Go.Proofs.Ytpbgglkopfjagaa
end Go.Proofs.Ytpbgglkopfjagaa
/- thornton.Step of variances alone, One and one number more: what comes out (plain law, 1). No program. -/
namespace Go.Proofs.Ytpbgglkopfjagaa
def SB (x : Int) : Prop := -1152921504606846976 ≤ x ∧ x ≤ 1152921504606846976
end Go.Proofs.Ytpbgglkopfjagaa
/- Contract of tri.At: a number of the covariance. -/
namespace Go.Proofs.Ytpbgglkopfjagaa
open Go.RowKit
set_option maxRecDepth 100000
theorem ownBlock_lt {w : World} {B T : Nat} {v : Value} {n : Nat} {L : Nat → Int} (h : Own w B T v n L) {g : Nat} (e : v.ownBlock = some g) : B ≤ g ∧ g < w.heap.size := World.ownsRow.lt h g e
theorem snoc_fun {n : Nat} {L : Nat → Int} {y : Int} (e : y = L n) : ∀ i, i < n + 1 → upd L n y i = L i := fun i _ => by
  unfold upd; split
  · rename_i h; rw [h, e]
  · rfl
end Go.Proofs.Ytpbgglkopfjagaa
