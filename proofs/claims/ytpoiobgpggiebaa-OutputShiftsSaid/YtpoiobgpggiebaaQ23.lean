/- Contracts of the program's functions and plain laws, part 23: they hold for all arguments. -/
import Derived.Test.YtpoiobgpggiebaaQ22
/- Plain laws of OutputCalm: an estimate that is just an output corrects nothing. -/
namespace Go.Proofs.Ytpoiobgpggiebaa
set_option maxRecDepth 100000
theorem uni_congr {A B : Nat → Int} (h : ∀ i, i < 4 → A i = B i) : ∀ i, i < 4 → uniV A i = uniV B i := by
  have hs : ∀ i, i < 4 → satA A i = satA B i := fun i hi => by unfold satA; rw [h i hi]
  have hh : ∀ {X Y : Nat → Int}, (∀ i, i < 4 → X i = Y i) → hypV X 4 = hypV Y 4 := fun {X Y} e => by
    unfold hypV; simp only [dotS]; rw [e 0 (by decide), e 1 (by decide), e 2 (by decide), e 3 (by decide)]
  have ht : ∀ {X Y : Nat → Int}, (∀ i, i < 4 → X i = Y i) → ∀ i, i < 4 → uniT X i = uniT Y i := fun {X Y} e i hi => by
    unfold uniT; rw [e i hi, hh e]
  have hz : zer4 (satA A) = zer4 (satA B) := by unfold zer4; rw [hs 0 (by decide), hs 1 (by decide), hs 2 (by decide), hs 3 (by decide)]
  intro i hi
  unfold uniV
  rw [hz]
  split
  · rfl
  · exact ht (ht hs) i hi
theorem qm_congr {A A' B B' : Nat → Int} (h : ∀ i, i < 4 → A i = A' i) (k : ∀ i, i < 4 → B i = B' i) (r : Nat) : qmV A B r = qmV A' B' r := by
  have e : ∀ i, i < 4 → satA A i = satA A' i := fun i hi => by unfold satA; rw [h i hi]
  have f : ∀ i, i < 4 → satA B i = satA B' i := fun i hi => by unfold satA; rw [k i hi]
  have g : qmR (satA B) r = qmR (satA B') r := by
    unfold qmR
    split <;> simp only [f 0 (by decide), f 1 (by decide), f 2 (by decide), f 3 (by decide)]
  unfold qmV dotV
  rw [g]
  simp only [dotS]
  rw [e 0 (by decide), e 1 (by decide), e 2 (by decide), e 3 (by decide)]
/-- A rotation and its own turn back: no turn. -/
theorem qm_conj {Q : Nat → Int} (hQ : ∀ i, i < 4 → -1073741840 ≤ Q i ∧ Q i ≤ 1073741840) {k : Nat} (h1 : 1 ≤ k) (h2 : k < 4) : qmV Q (conjV Q) k = 0 := by
  have hs : ∀ i, i < 4 → satV (Q i) = Q i := fun i hi => satV_id (by have := hQ i hi; omega) (by have := hQ i hi; omega)
  have hn : ∀ i, i < 4 → satV (-(Q i)) = -(Q i) := fun i hi => satV_id (by have := hQ i hi; omega) (by have := hQ i hi; omega)
  have e0 : satA (conjV Q) 0 = Q 0 := by unfold satA conjV; rw [if_pos rfl, hs 0 (by decide), hs 0 (by decide)]
  have e1 : satA (conjV Q) 1 = -(Q 1) := by unfold satA conjV; rw [if_neg (by decide), hs 1 (by decide), hn 1 (by decide)]
  have e2 : satA (conjV Q) 2 = -(Q 2) := by unfold satA conjV; rw [if_neg (by decide), hs 2 (by decide), hn 2 (by decide)]
  have e3 : satA (conjV Q) 3 = -(Q 3) := by unfold satA conjV; rw [if_neg (by decide), hs 3 (by decide), hn 3 (by decide)]
  have m : ∀ i, i < 4 → satA Q i = Q i := hs
  have bd := hQ 0 (by decide)
  have z : dotS (satA Q) (qmR (satA (conjV Q)) k) 4 = 0 := by
    have q0 := hs 0 (by decide)
    have q1 := hs 1 (by decide)
    have q2 := hs 2 (by decide)
    have q3 := hs 3 (by decide)
    have n1 := hn 1 (by decide)
    have n2 := hn 2 (by decide)
    have n3 := hn 3 (by decide)
    rcases (show k = 1 ∨ k = 2 ∨ k = 3 by omega) with rfl | rfl | rfl
    all_goals
      simp only [dotS, qmR, q4, e0, e1, e2, e3, m 0 (by decide), m 1 (by decide), m 2 (by decide), m 3 (by decide)]
      simp [q0, q1, q2, q3, n1, n2, n3]
      grind
  unfold qmV dotV
  rw [if_neg (by decide), z]
  decide
theorem qm_one {X : Nat → Int} (hX : ∀ i, i < 4 → -1073741840 ≤ X i ∧ X i ≤ 1073741840) {k : Nat} (hk : k < 4) : qmV oneQ X k = X k := by
  have hs : ∀ i, i < 4 → satV (X i) = X i := fun i hi => satV_id (by have := hX i hi; omega) (by have := hX i hi; omega)
  have m : ∀ i, i < 4 → satA X i = X i := hs
  have o0 : satA oneQ 0 = 1073741824 := by decide
  have o1 : satA oneQ 1 = 0 := by decide
  have o2 : satA oneQ 2 = 0 := by decide
  have o3 : satA oneQ 3 = 0 := by decide
  have z : dotS (satA oneQ) (qmR (satA X) k) 4 = X k * 1073741824 := by
    have q0 := hs 0 (by decide)
    have q1 := hs 1 (by decide)
    have q2 := hs 2 (by decide)
    have q3 := hs 3 (by decide)
    have s1 : satV 1073741824 = 1073741824 := by decide
    have s0 : satV 0 = 0 := by decide
    rcases (show k = 0 ∨ k = 1 ∨ k = 2 ∨ k = 3 by omega) with rfl | rfl | rfl | rfl
    all_goals
      simp only [dotS, qmR, q4, o0, o1, o2, o3, m 0 (by decide), m 1 (by decide), m 2 (by decide), m 3 (by decide)]
      simp [q0, q1, q2, q3, s0, s1]
      try omega
  have hb := hX k hk
  unfold qmV dotV
  rw [if_neg (by decide), z]
  show satV (rsh (X k * 1073741824) 30) = X k
  rw [rsh_oneg]
  exact hs k hk
theorem co_q (g : Int) (DV DP TU O : Nat → Int) (hT : ∀ i, i < 4 → TU i = oneQ i) {j : Nat} (h1 : 1 ≤ j) (h2 : j < 5) : coF g DV DP TU O j = uniV (qmV oneQ (fun i => O (1 + i))) (j - 1) := by
  unfold coF
  (try simp only)
  rw [putF_at (by omega)]
  refine uni_congr (fun i hi => ?_) (j - 1) (by omega)
  refine qm_congr hT (fun i hi => ?_) i
  rw [putF_no (by omega), putF_no (by omega)]
theorem calm_E (K S0 : Nat → Int) (t t0 : Int) {j : Nat} (h1 : 1 ≤ j) (h2 : j < 11) : ofF (poF K (ofF S0 t0)) t j = ofF S0 t0 j := by
  by_cases h : j < 5
  · exact po_lo K _ t (of_unit S0 t0) h1 h
  · exact po_in K _ t (by omega) h2 (of_bd S0 t0 (by omega) h2)
theorem calm_turn (g : Int) (K S0 : Nat → Int) (t t0 : Int) : ∀ i, i < 4 → uniV (tuQ g (crR (ofF (poF K (ofF S0 t0)) t) (ofF S0 t0)) 4) i = oneQ i := by
  have hu := of_unit S0 t0
  have hz : ∀ k, 1 ≤ k → k < 4 → crR (ofF (poF K (ofF S0 t0)) t) (ofF S0 t0) k = 0 := fun k k1 k2 => by
    unfold crR
    rw [qm_congr (A' := fun i => ofF S0 t0 (1 + i)) (B' := conjV (fun i => ofF S0 t0 (1 + i))) (fun i hi => calm_E K S0 t t0 (by omega) (by omega)) (fun i hi => rfl)]
    exact qm_conj hu.1 k1 k2
  have ht : ∀ i, i < 4 → tuQ g (crR (ofF (poF K (ofF S0 t0)) t) (ofF S0 t0)) 4 i = oneQ i := fun i hi => by
    unfold tuQ oneQ
    by_cases h0 : i = 0
    · rw [if_pos h0, if_pos h0]
    · rw [if_neg h0, if_neg h0, if_pos hi, hz i (by omega) hi, show (-(0 : Int)) = 0 from rfl, ite_self]
      unfold mulV
      rw [if_neg (by decide), show satV 0 = 0 by decide, Int.mul_zero]
      decide
  intro i hi
  rw [uni_congr ht i hi]
  exact (by decide +kernel : ∀ i, i < 4 → uniV oneQ i = oneQ i) i hi
/-- What Correct makes of an output, by an estimate that is just an output. -/
theorem calm_out {g : Int} (hg : 1 ≤ g ∧ g ≤ 1073741824) (K S0 S1 : Nat → Int) (t t0 t1 : Int) :
    (∀ j, 5 ≤ j → j < 11 → eaF (crF g (ofF (poF K (ofF S0 t0)) t) (ofF S0 t0)) (ofF S1 t1) j = ofF S1 t1 j) ∧
    (∀ j, 1 ≤ j → j < 5 → -64 ≤ eaF (crF g (ofF (poF K (ofF S0 t0)) t) (ofF S0 t0)) (ofF S1 t1) j - ofF S1 t1 j ∧ eaF (crF g (ofF (poF K (ofF S0 t0)) t) (ofF S0 t0)) (ofF S1 t1) j - ofF S1 t1 j ≤ 64) ∧
    eaF (crF g (ofF (poF K (ofF S0 t0)) t) (ofF S0 t0)) (ofF S1 t1) 0 = ofF S1 t1 0 := by
  have hu := of_unit S1 t1
  have hv : ∀ j, 5 ≤ j → j < 11 → crF g (ofF (poF K (ofF S0 t0)) t) (ofF S0 t0) (ofF S1 t1) j = ofF S1 t1 j := fun j h1 h2 => by
    have hX := of_bd S1 t1 h1 h2
    have hO := of_bd S0 t0 h1 h2
    rw [cr_hi g _ _ _ h1 h2, calm_E K S0 t t0 (by omega) h2]
    obtain ⟨d1, d2, _, _, _⟩ := dmul (obx_in hO) (obx_in hO) (g := g) (by omega)
    rw [d1, d2, Int.sub_self, Int.zero_mul, show rsh 0 30 = 0 by decide]
    have s1 : SB (ofF S1 t1 j) := by have := obx_in hX; unfold SB; omega
    unfold addV
    rw [satV_sb s1, show satV 0 = 0 by decide, Int.add_zero, satV_sb s1]
  have hq : ∀ j, 1 ≤ j → j < 5 → crF g (ofF (poF K (ofF S0 t0)) t) (ofF S0 t0) (ofF S1 t1) j = uniV (fun i => ofF S1 t1 (1 + i)) (j - 1) := fun j h1 h2 => by
    unfold crF
    rw [co_q g _ _ _ _ (calm_turn g K S0 t t0) h1 h2]
    exact uni_congr (fun i hi => qm_one hu.1 hi) (j - 1) (by omega)
  have hU : UnitQ (fun i => crF g (ofF (poF K (ofF S0 t0)) t) (ofF S0 t0) (ofF S1 t1) (1 + i)) :=
    unitQ_congr (fun i hi => by rw [hq (1 + i) (by omega) (by omega), show 1 + i - 1 = i by omega]) (unit_good (fun i => ofF S1 t1 (1 + i)))
  refine ⟨fun j h1 h2 => ?_, fun j h1 h2 => ?_, eaF_0 _ _⟩
  · unfold eaF
    rw [po_in _ _ _ h1 h2 (by rw [hv j h1 h2]; exact of_bd S1 t1 h1 h2), hv j h1 h2]
  · have hn := uni_near hu (j - 1) (by omega)
    simp only [show 1 + (j - 1) = j by omega] at hn
    unfold eaF
    rw [po_lo _ _ _ hU h1 h2, hq j h1 h2]
    exact hn
end Go.Proofs.Ytpoiobgpggiebaa
