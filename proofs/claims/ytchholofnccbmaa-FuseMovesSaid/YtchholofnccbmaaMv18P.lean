/- FuseMoves: the plain law. -/
import Derived.Test.YtchholofnccbmaaQ19
import Derived.Test.YtchholofnccbmaaOneP
import Derived.Test.YtchholofnccbmaaQ16
namespace Go.Proofs.Ytchholofnccbmaa
set_option maxRecDepth 100000
theorem awQ : (∀ i, i < 4 → uniV awS i = awS i) ∧ uniH awS = false := by decide +kernel
theorem mv_sum {k : Nat} {v : Int} (h4 : 4 ≤ k) (hv : -1152921504606846976 ≤ v ∧ v ≤ 1152921504606846976) {G : Nat → Int} (hG : ∀ i, i < 24 → G i = if i = k then v else 0) :
    ∀ i, i < 24 → sumA awS G i = (if i = k then v else awS i) ∧ addH (awS i) (G i) = false := fun i hi => by
  have s0 : satV 0 = 0 := by decide
  have h0 : satH 0 = false := by decide
  have h1 : satH 1073741824 = false := by decide
  have s1 : satV 1073741824 = 1073741824 := by decide
  have sv := satV_id hv.1 hv.2
  have hv2 := satH_no hv.1 hv.2
  unfold sumA addV addH
  rw [hG i hi]
  by_cases e : i = k
  · subst e
    rw [if_pos rfl, if_pos rfl, show awS i = 0 from by unfold awS; rw [if_neg (by omega)], s0, sv, h0, hv2, Int.zero_add, sv, hv2]; exact ⟨rfl, rfl⟩
  · rw [if_neg e, if_neg e, s0, h0]
    unfold awS
    split
    · rw [s1, h1, Int.add_zero, s1, h1]; exact ⟨rfl, rfl⟩
    · rw [s0, h0, Int.add_zero, s0, h0]; exact ⟨rfl, rfl⟩
theorem mv_add {k : Nat} {v : Int} (h4 : 7 ≤ k) (h10 : k < 10) (hv : -9007199254740992 ≤ v ∧ v ≤ 9007199254740992) {G : Nat → Int} (hG : ∀ i, i < 24 → G i = if i = k then v else 0) :
    (∀ i, i < 24 → addNF awS G 1 i = if i = k then v else awS i) ∧ addNH awS G 1 = false := by
  have hs := mv_sum (k := k) (v := v) (by omega) (by omega) hG
  have s4 : ∀ i, i < 4 → sumA awS G i = awS i := fun i hi => by rw [(hs i (by omega)).1, if_neg (by omega)]
  have u := uni_c s4
  have t : ∀ i, i < 24 → turnd (sumA awS G) (uniV (sumA awS G)) i = if i = k then v else awS i := fun i hi => by
    unfold turnd
    split
    · rename_i h; rw [u.1 i h, awQ.1 i h, if_neg (by omega)]
    · exact (hs i hi).1
  have bx : ∀ i, i < 24 → 4 ≤ i → -(boxF i) ≤ (if i = k then v else awS i) ∧ (if i = k then v else awS i) ≤ boxF i := fun i hi h => by
    have hb := boxF_bd i
    split
    · rename_i e; subst e
      have : boxF i = 9007199254740992 := by unfold boxF; rw [if_neg (by omega), if_neg (by omega), if_pos h10]
      omega
    · unfold awS; rw [if_neg (by omega)]; omega
  have a : add1F awS G = addNF awS G 1 := by
    show _ = add1F awS (fun i => G (0 * 24 + i))
    congr 1; funext i; congr 1; omega
  have b : add1H awS G = addNH awS G 1 := by
    show _ = (false || add1H awS (fun i => G (0 * 24 + i)))
    rw [Bool.false_or]
    congr 1; funext i; congr 1; omega
  rw [← a, ← b]
  refine ⟨fun i hi => ?_, ?_⟩
  · unfold add1F clmF
    rw [t i hi]
    split
    · rfl
    · exact (clampV_id (bx i hi (by omega))).1
  · unfold add1H
    rw [orB_no fun i hi => (hs i hi).2, u.2, awQ.2]
    simp only [Bool.false_or]
    refine orB_no fun j hj => ?_
    unfold clmP
    rw [t (4 + j) (by omega)]
    exact (clampV_id (bx (4 + j) (by omega) (by omega))).2
/-- What the state moves by. -/
def mvV (y d r : Int) : Int := mulV (divV d (d + r) 30) y 30
theorem mv_bd {y d r : Int} (hy : -35184372088832 ≤ y ∧ y ≤ 35184372088832) (hd : 1 ≤ d ∧ d ≤ 72057594037927936) (hr : 1 ≤ r ∧ r ≤ 72057594037927936) :
    (0 ≤ y → 0 ≤ mvV y d r ∧ mvV y d r ≤ y) ∧ (y < 0 → mvV y d r ≤ 0 ∧ y ≤ mvV y d r) ∧ mulH (divV d (d + r) 30) y 30 = false := by
  have hs : satV (d + r) = d + r := satV_id (by omega) (by omega)
  have hd' : satV d = d := satV_id (by omega) (by omega)
  have hy' : satV y = y := satV_id (by omega) (by omega)
  have g : 0 ≤ divV d (d + r) 30 ∧ divV d (d + r) 30 ≤ 1073741824 := by
    have h30 : (2 : Int) ^ (30 : Int).toNat = 1073741824 := by decide
    unfold divV byV
    rw [if_neg (by decide), hs, hd', h30, if_neg (by omega)]
    have x1 : 0 ≤ rdiv (d * 1073741824) (d + r) := rdiv_nonneg (by omega) (by omega)
    have x2 : rdiv (d * 1073741824) (d + r) ≤ 1073741824 := rdiv_le (by omega) (by omega) (by omega)
    rw [satV_id (by omega) (by omega)]
    exact ⟨x1, x2⟩
  obtain ⟨K, hK⟩ : ∃ x, divV d (d + r) 30 = x := ⟨_, rfl⟩
  unfold mvV
  rw [hK] at g ⊢
  have hg : satV K = K := satV_id (by omega) (by omega)
  have hgy : ∀ a b : Int, 0 ≤ a → a ≤ 1073741824 → 0 ≤ b → a * b ≤ b * 1073741824 ∧ 0 ≤ a * b := fun a b h1 h2 h3 => by
    have := Int.mul_le_mul_of_nonneg_right h2 h3
    have h5 := Int.mul_nonneg h1 h3
    omega
  have e30 : (2 : Int) ^ (30 : Int).toNat = 1073741824 := by decide
  have key : (0 ≤ y → 0 ≤ rsh (K * y) (30 : Int).toNat ∧ rsh (K * y) (30 : Int).toNat ≤ y) ∧ (y < 0 → rsh (K * y) (30 : Int).toNat ≤ 0 ∧ y ≤ rsh (K * y) (30 : Int).toNat) := by
    unfold rsh
    rw [e30]
    constructor
    · intro h
      obtain ⟨a, b⟩ := hgy K y g.1 g.2 h
      exact ⟨rdiv_nonneg b (by omega), rdiv_le (by omega) a h⟩
    · intro h
      obtain ⟨a, b⟩ := hgy K (-y) g.1 g.2 (by omega)
      have e : K * y = -(K * (-y)) := by rw [Int.mul_neg]; omega
      rw [e, rdiv_neg1]
      have := rdiv_nonneg b (d := 1073741824) (by omega)
      have := rdiv_le (d := 1073741824) (x := K * (-y)) (m := -y) (by omega) a (by omega)
      omega
  have hbd : -1152921504606846976 ≤ rsh (K * y) (30 : Int).toNat ∧ rsh (K * y) (30 : Int).toNat ≤ 1152921504606846976 := by
    by_cases h : 0 ≤ y
    · have := key.1 h; omega
    · have := key.2 (by omega); omega
  have em : mulV K y 30 = rsh (K * y) (30 : Int).toNat := by
    unfold mulV; rw [if_neg (by decide), hg, hy']; exact satV_id hbd.1 hbd.2
  refine ⟨fun h => by rw [em]; exact key.1 h, fun h => by rw [em]; exact key.2 h, ?_⟩
  unfold mulH
  rw [hg, hy', satH_no (a := K) (by omega) (by omega), satH_no (a := y) (by omega) (by omega), satH_no hbd.1 hbd.2]
  decide
theorem mv_law {k : Nat} {y d r : Int} (h4 : 7 ≤ k) (h10 : k < 10) (hy : -35184372088832 ≤ y ∧ y ≤ 35184372088832) (hd : 1048576 ≤ d ∧ d ≤ 72057594037927936) (hr : 1048576 ≤ r ∧ r ≤ 72057594037927936) :
    (foL (onP k d) (obF (pkF k) y r 1000) = false → eqB 24 (foSt awS (onP k d) (obF (pkF k) y r 1000)) awS = true ∧ covB (foPt (onP k d) (obF (pkF k) y r 1000)) (onP k d) = true) ∧
    (foL (onP k d) (obF (pkF k) y r 1000) = true → (∀ i, i < 24 → foSt awS (onP k d) (obF (pkF k) y r 1000) i = if i = k then mvV y d r else awS i) ∧
      (∀ i, i < 24 → foPt (onP k d) (obF (pkF k) y r 1000) (276 + i) = if i = k then mdivV d r (d + r) else onP k d (276 + i)) ∧ foFl awS (onP k d) (obF (pkF k) y r 1000) = false) ∧
    mdivV d r (d + r) ≤ d ∧ mdivV d r (d + r) ≤ r := by
  have hk : k < 24 := by omega
  have hD : DiagF (onP k d) := ⟨fun x hx => onP_U hx, fun i _ => by rw [onP_D]; split <;> omega⟩
  have e : onP k d (276 + k) = d := by rw [onP_D, if_pos rfl]
  obtain ⟨f1, f2, f3, f4, f5, f6, f7, f8⟩ := fo_one hD hk (y := y) (r := r) (g := 1000) (by omega) (by rw [e]; omega)
  rw [e] at f1 f2 f3 f5
  have hy' : satV y = y := satV_id (by omega) (by omega)
  rw [hy'] at f2
  obtain ⟨b1, b2, b3⟩ := mv_bd hy (d := d) (r := r) (by omega) (by omega)
  refine ⟨fun h => ?_, fun h => ?_, ?_⟩
  · refine ⟨eqB_iff.2 fun i hi => ?_, covB_iff.2 fun x hx => ?_⟩
    · unfold foSt; rw [if_neg (by rw [h]; decide)]; exact aw_st.1 i hi
    · unfold foPt; rw [if_neg (by rw [h]; decide)]; exact (cond_diag hD).1 x hx
  · have hG : ∀ i, i < 24 → foG (onP k d) (obF (pkF k) y r 1000) i = if i = k then mvV y d r else 0 := fun i hi => by
      rw [f2 i hi]
      split
      · rfl
      · rw [mulV_comm]; exact mulV_zero _
    have hvb : -9007199254740992 ≤ mvV y d r ∧ mvV y d r ≤ 9007199254740992 := by
      by_cases h0 : 0 ≤ y
      · have := b1 h0; omega
      · have := b2 (by omega); omega
    have ha := mv_add h4 h10 hvb hG
    have hc := addN1_c (S := keepF awS) (T := awS) (D := foG (onP k d) (obF (pkF k) y r 1000)) aw_st.1 (fun _ _ => rfl)
    refine ⟨fun i hi => ?_, fun i hi => ?_, ?_⟩
    · unfold foSt foA; rw [if_pos h]; exact (hc.1 i hi).trans (ha.1 i hi)
    · unfold foPt; rw [if_pos h]; exact f5 i hi
    · unfold foFl foTH foH
      have ey : satH (obF (pkF k) y r 1000 24) = false := by rw [(obF_y (pkF k) y r 1000).1]; exact satH_no (by omega) (by omega)
      have er : obF (pkF k) y r 1000 25 = r := (obF_y (pkF k) y r 1000).2.1
      rw [if_pos h, hc.2, ha.2, aw_st.2.1, f6, ey, er, f7, f8 hr.1]
      have hb : orB (gnB (updG (condF (onP k d)) (obF (pkF k) y r 1000) r) (foY (obF (pkF k) y r 1000))) 24 = false := by
        refine orB_no fun i hi => ?_
        have ey2 : foY (obF (pkF k) y r 1000) = y := by unfold foY; rw [(obF_y (pkF k) y r 1000).1]; exact hy'
        unfold gnB
        rw [f3 i hi, ey2]
        split
        · exact b3
        · unfold mulH
          rw [show satV 0 = 0 from by decide, Int.zero_mul, satH_no (a := y) (by omega) (by omega)]
          decide
      rw [hb]; rfl
  · have hs : satV (d + r) = d + r := satV_id (by omega) (by omega)
    have x1 : 0 ≤ rdiv (d * r) (d + r) := rdiv_nonneg (Int.mul_nonneg (by omega) (by omega)) (by omega)
    have x2 : rdiv (d * r) (d + r) ≤ d := rdiv_le (by omega) (Int.mul_le_mul_of_nonneg_left (by omega) (by omega)) (by omega)
    have x3 : rdiv (d * r) (d + r) ≤ r := rdiv_le (by omega) (by rw [Int.mul_comm d r]; exact Int.mul_le_mul_of_nonneg_left (by omega) (by omega)) (by omega)
    unfold mdivV byV
    rw [hs, satV_id (a := d) (by omega) (by omega), satV_id (a := r) (by omega) (by omega), if_neg (by omega), satV_id (by omega) (by omega)]
    exact ⟨x2, x3⟩
end Go.Proofs.Ytchholofnccbmaa
