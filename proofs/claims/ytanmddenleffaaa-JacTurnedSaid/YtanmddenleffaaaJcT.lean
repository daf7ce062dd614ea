/- Turned tells how a turned vector changes (plain law of JacTurned). No program beyond the numbers' names. -/
import Derived.Test.YtanmddenleffaaaS01
import Derived.Test.YtanmddenleffaaaCl7
namespace Go.Proofs.Ytanmddenleffaaa
theorem dot_err {A B : Nat → Int} {n : Nat} {X Y Z : Int} (hA : ∀ k, k < n → ab (A k) ≤ X) (hB : ∀ k, k < n → ab (B k) ≤ Y) (hX : X ≤ 1152921504606846976) (hY : Y ≤ 1152921504606846976) (hZ : (n : Int) * (X * Y) ≤ 1073741824 * Z) (hZ2 : Z ≤ 1152921504606846976) :
    2 * ab (1073741824 * dotV 30 A B n - sg (fun k => A k * B k) n) ≤ 1073741824 ∧ dotH 30 A B n = false ∧ ab (dotV 30 A B n) ≤ Z := by
  have h1 : ab (sg (fun k => A k * B k) n) ≤ 1073741824 * Z := by
    refine Int.le_trans (sg_ab _ _) (Int.le_trans (sg_le (g := fun _ => X * Y) fun k hk => ab_mul_le (hA k hk) (hB k hk)) ?_)
    rw [sg_const]; exact hZ
  have h2 := rsh_ab h1
  have dv := dotV_sg (A := A) (B := B) (n := n) (fun k hk => ⟨sb_ab (hA k hk) hX, sb_ab (hB k hk) hY⟩) (sb_ab h2 hZ2)
  rw [dv.1]
  exact ⟨rsh_two _, dv.2, h2⟩
theorem ro_bd {Q : Nat → Int} {X : Int} (h : ∀ i, i < 4 → ab (Q i) ≤ X) {k j : Nat} (hk : k < 9) (hj : j < 4) : ab (roA Q k j) ≤ X ∧ ab (roB Q k j) ≤ X := by
  have h0 := h 0 (by decide)
  have h1 := h 1 (by decide)
  have h2 := h 2 (by decide)
  have h3 := h 3 (by decide)
  have n0 : ab (-(Q 0)) ≤ X := by rw [ab_neg]; exact h0
  have n1 : ab (-(Q 1)) ≤ X := by rw [ab_neg]; exact h1
  have n2 : ab (-(Q 2)) ≤ X := by rw [ab_neg]; exact h2
  have n3 : ab (-(Q 3)) ≤ X := by rw [ab_neg]; exact h3
  rcases (show k = 0 ∨ k = 1 ∨ k = 2 ∨ k = 3 ∨ k = 4 ∨ k = 5 ∨ k = 6 ∨ k = 7 ∨ k = 8 by omega) with rfl | rfl | rfl | rfl | rfl | rfl | rfl | rfl | rfl <;>
    rcases (show j = 0 ∨ j = 1 ∨ j = 2 ∨ j = 3 by omega) with rfl | rfl | rfl | rfl <;>
    exact ⟨by first | exact h0 | exact h1 | exact h2 | exact h3 | exact n0 | exact n1 | exact n2 | exact n3, by first | exact h0 | exact h1 | exact h2 | exact h3 | exact n0 | exact n1 | exact n2 | exact n3⟩
theorem sat_id4 {Q : Nat → Int} {X : Int} {n : Nat} (h : ∀ i, i < n → ab (Q i) ≤ X) (hX : X ≤ 1152921504606846976) : ∀ i, i < n → satF Q i = Q i := fun i hi => satV_sb (sb_ab (h i hi) hX)
/-- The sums that Turned rounds. -/
def tuS (Q A : Nat → Int) (r j : Nat) : Int := if j = 0 then sg (fun k => fiA Q r k * fiB A r k) 6 else sg (fun k => suA Q r (j - 1) k * suB A r (j - 1) k) (suN r (j - 1))
def roS (Q : Nat → Int) (k : Nat) : Int := sg (fun j => roA Q k j * roB Q k j) 4
theorem jt_id (q d a : Nat → Int) : ∀ i, i < 3 → roS (fun k => q k + d k) (3 * i) * a 0 + roS (fun k => q k + d k) (3 * i + 1) * a 1 + roS (fun k => q k + d k) (3 * i + 2) * a 2
   - (roS q (3 * i) * a 0 + roS q (3 * i + 1) * a 1 + roS q (3 * i + 2) * a 2) - (tuS q a i 0 * d 0 + tuS q a i 1 * d 1 + tuS q a i 2 * d 2 + tuS q a i 3 * d 3)
   = roS d (3 * i) * a 0 + roS d (3 * i + 1) * a 1 + roS d (3 * i + 2) * a 2 := by
  intro i hi
  obtain rfl | rfl | rfl : i = 0 ∨ i = 1 ∨ i = 2 := by omega
  all_goals
    simp [roS, tuS, sg, roA, roB, q4, fiA, fiB, suA, suB, suN, s5A, s5B, s2A, s2B, ap2, upd, zF]
    grind
section
variable {q a d : Nat → Int} (hq : ∀ i, i < 4 → ab (q i) ≤ 1073741840) (hd : ∀ i, i < 4 → ab (d i) ≤ 1048576) (ha : ∀ i, i < 3 → ab (a i) ≤ 17179869184)
/-- The matrix of a quaternion near One, times a vector. -/
theorem ap_near {Q : Nat → Int} (hQ : ∀ i, i < 4 → ab (Q i) ≤ 1075000000) (ha : ∀ i, i < 3 → ab (a i) ≤ 17179869184) : roH Q = false ∧ apH (roV Q) a = false ∧
    ∀ i, i < 3 → ab (1152921504606846976 * apV (roV Q) a i - (roS Q (3 * i) * a 0 + roS Q (3 * i + 1) * a 1 + roS Q (3 * i + 2) * a 2)) ≤ 28250000000000000000 ∧ ab (apV (roV Q) a i) ≤ 1000000000000 := by
  have eQ : ∀ i, i < 4 → satA Q i = Q i := fun i hi => satV_sb (sb_ab (hQ i hi) (by decide))
  have hQ' : ∀ i, i < 4 → ab (satA Q i) ≤ 1075000000 := fun i hi => by rw [eQ i hi]; exact hQ i hi
  have m : ∀ k, k < 9 → 2 * ab (1073741824 * roV Q k - roS Q k) ≤ 1073741824 ∧ roNH (satA Q) k = false ∧ ab (roV Q k) ≤ 4400000000 := fun k hk => by
    have h := dot_err (A := roA (satA Q) k) (B := roB (satA Q) k) (n := 4) (X := 1075000000) (Y := 1075000000) (Z := 4400000000) (fun j hj => (ro_bd hQ' hk hj).1) (fun j hj => (ro_bd hQ' hk hj).2) (by decide) (by decide) (by decide) (by decide)
    have e : roS Q k = sg (fun j => roA (satA Q) k j * roB (satA Q) k j) 4 := by
      unfold roS
      refine sg_congr fun j hj => ?_
      rcases (show k = 0 ∨ k = 1 ∨ k = 2 ∨ k = 3 ∨ k = 4 ∨ k = 5 ∨ k = 6 ∨ k = 7 ∨ k = 8 by omega) with rfl | rfl | rfl | rfl | rfl | rfl | rfl | rfl | rfl <;>
        rcases (show j = 0 ∨ j = 1 ∨ j = 2 ∨ j = 3 by omega) with rfl | rfl | rfl | rfl <;>
        simp [roA, roB, q4, eQ 0 (by decide), eQ 1 (by decide), eQ 2 (by decide), eQ 3 (by decide)]
    rw [e]
    exact h
  refine ⟨?_, ?_, fun i hi => ?_⟩
  · unfold roH
    rw [cl_orB fun i hi => satH_sb (sb_ab (hQ i hi) (by decide)), cl_orB fun k hk => (m k hk).2.1]; rfl
  · unfold apH
    exact cl_orB fun i hi => (dot_err (A := fun k => roV Q (3 * i + k)) (B := a) (n := 3) (X := 4400000000) (Y := 17179869184) (Z := 1000000000000) (fun k hk => (m _ (by omega)).2.2) ha (by decide) (by decide) (by decide) (by decide)).2.1
  · have h := dot_err (A := fun k => roV Q (3 * i + k)) (B := a) (n := 3) (X := 4400000000) (Y := 17179869184) (Z := 1000000000000) (fun k hk => (m _ (by omega)).2.2) ha (by decide) (by decide) (by decide) (by decide)
    refine ⟨?_, h.2.2⟩
    have m0 := (m (3 * i) (by omega)).1
    have m1 := (m (3 * i + 1) (by omega)).1
    have m2 := (m (3 * i + 2) (by omega)).1
    have e : apV (roV Q) a i = dotV 30 (fun k => roV Q (3 * i + k)) a 3 := rfl
    rw [e]
    have h1 := h.1
    obtain ⟨x, hx⟩ : ∃ x, dotV 30 (fun k => roV Q (3 * i + k)) a 3 = x := ⟨_, rfl⟩
    rw [hx] at h1 ⊢
    have es : sg (fun k => roV Q (3 * i + k) * a k) 3 = roV Q (3 * i) * a 0 + roV Q (3 * i + 1) * a 1 + roV Q (3 * i + 2) * a 2 := by simp [sg]
    rw [es] at h1
    generalize roV Q (3 * i) = M0 at *
    generalize roV Q (3 * i + 1) = M1 at *
    generalize roV Q (3 * i + 2) = M2 at *
    generalize roS Q (3 * i) = S0 at *
    generalize roS Q (3 * i + 1) = S1 at *
    generalize roS Q (3 * i + 2) = S2 at *
    have t0 := ab_le (ab_mul_le (show ab (1073741824 * M0 - S0) ≤ 536870912 by omega) (ha 0 (by decide)))
    have t1 := ab_le (ab_mul_le (show ab (1073741824 * M1 - S1) ≤ 536870912 by omega) (ha 1 (by decide)))
    have t2 := ab_le (ab_mul_le (show ab (1073741824 * M2 - S2) ≤ 536870912 by omega) (ha 2 (by decide)))
    rw [Int.sub_mul, Int.mul_assoc] at t0 t1 t2
    have h2 := ab_le (show ab (1073741824 * x - (M0 * a 0 + M1 * a 1 + M2 * a 2)) ≤ 536870912 by omega)
    exact le_ab (by omega)
/-- Was a number of Turned clamped? -/
def tnHj (Q A : Nat → Int) (r j : Nat) : Bool := if j = 0 then dotH 30 (fiA Q r) (fiB A r) 6 else tnI Q A r (j - 1)
include hq ha in
theorem tu_near {r j : Nat} (hr : r < 3) (hj : j < 4) : 2 * ab (1073741824 * tuF q a (r * 4 + j) - tuS q a r j) ≤ 1073741824 ∧ ab (tuF q a (r * 4 + j)) ≤ 180000000000 ∧ tnHj (satF q) (satF a) r j = false := by
  have eq4 := sat_id4 hq (by decide)
  have ea3 := sat_id4 ha (by decide)
  unfold tuF tnF
  rw [show (r * 4 + j) / 4 = r by omega, show (r * 4 + j) % 4 = j by omega]
  have aq : ∀ i, i < 4 → ab (satF q i) ≤ 1073741840 := fun i hi => by rw [eq4 i hi]; exact hq i hi
  have aa : ∀ i, i < 3 → ab (satF a i) ≤ 17179869184 := fun i hi => by rw [ea3 i hi]; exact ha i hi
  have z : ∀ k, ab (zF k) ≤ 1073741840 ∧ ab (zF k) ≤ 17179869184 := fun k => by unfold zF; decide
  have up : ∀ {F : Nat → Int} {X x : Int} (n : Nat), (∀ k, ab (F k) ≤ X) → ab x ≤ X → ∀ k, ab (ap2 F n x k) ≤ X := fun n hF hx k => by
    unfold ap2 upd
    split
    · exact hx
    · split
      · exact hx
      · exact hF k
  have ng : ∀ {x X : Int}, ab x ≤ X → ab (-x) ≤ X := fun h => by rw [ab_neg]; exact h
  have f1 : ∀ k, ab (fiA (satF q) r k) ≤ 1073741840 := up 4 (up 2 (up 0 (fun k => (z k).1) (aq 0 (by decide))) (aq _ (by omega))) (ng (aq _ (by omega)))
  have f2 : ∀ k, ab (fiB (satF a) r k) ≤ 17179869184 := up 4 (up 2 (up 0 (fun k => (z k).2) (aa r hr)) (aa _ (by omega))) (aa _ (by omega))
  by_cases h : j = 0
  · rw [if_pos h]
    have e := dot_err (A := fiA (satF q) r) (B := fiB (satF a) r) (n := 6) (X := 1073741840) (Y := 17179869184) (Z := 180000000000) (fun k _ => f1 k) (fun k _ => f2 k) (by decide) (by decide) (by decide) (by decide)
    have es : tuS q a r j = sg (fun k => fiA (satF q) r k * fiB (satF a) r k) 6 := by
      unfold tuS
      rw [if_pos h]
      unfold fiA fiB
      rw [eq4 0 (by decide), eq4 _ (by omega), eq4 _ (by omega), ea3 r hr, ea3 _ (by omega), ea3 _ (by omega)]
    rw [es]
    exact ⟨e.1, e.2.2, by unfold tnHj; rw [if_pos h]; exact e.2.1⟩
  · rw [if_neg h]
    obtain ⟨i, rfl⟩ : ∃ i, j = i + 1 := ⟨j - 1, by omega⟩
    have hi : i < 3 := by omega
    rw [Nat.add_sub_cancel]
    have s2 : s2A (satF q) r i = s2A q r i ∧ s2B (satF a) r i = s2B a r i := by
      unfold s2A s2B
      rw [eq4 _ (by omega), eq4 _ (by omega), ea3 r hr, ea3 i hi]
      exact ⟨rfl, rfl⟩
    have s5 : ∀ n, n ≤ 3 → s5A (satF q) r i n = s5A q r i n ∧ s5B (satF a) r i n = s5B a r i n := fun n => by
      induction n with
      | zero => exact fun _ => s2
      | succ n ih =>
        intro hn
        unfold s5A s5B
        rw [(ih (by omega)).1, (ih (by omega)).2, eq4 _ (by omega), ea3 _ (by omega)]
        exact ⟨rfl, rfl⟩
    have sA : suA (satF q) r i = suA q r i := by unfold suA; rw [(s5 3 (by decide)).1, s2.1, eq4 0 (by decide)]
    have sB : suB (satF a) r i = suB a r i := by unfold suB; rw [(s5 3 (by decide)).2, s2.2, ea3 _ (by omega), ea3 _ (by omega)]
    rw [sA, sB]
    have b2 : (∀ k, ab (s2A q r i k) ≤ 1073741840) ∧ ∀ k, ab (s2B a r i k) ≤ 17179869184 :=
      ⟨up 2 (up 0 (fun k => (z k).1) (ng (hq _ (by omega)))) (hq _ (by omega)), up 2 (up 0 (fun k => (z k).2) (ha r hr)) (ha i hi)⟩
    have b5 : ∀ n, n ≤ 3 → (∀ k, ab (s5A q r i n k) ≤ 1073741840) ∧ ∀ k, ab (s5B a r i n k) ≤ 17179869184 := fun n => by
      induction n with
      | zero => exact fun _ => b2
      | succ n ih => exact fun hn => ⟨up _ (ih (by omega)).1 (hq _ (by omega)), up _ (ih (by omega)).2 (ha _ (by omega))⟩
    have bA : ∀ k, ab (suA q r i k) ≤ 1073741840 := fun k => by
      unfold suA
      split
      · exact (b5 3 (by decide)).1 k
      · split
        · exact up 4 b2.1 (ng (hq 0 (by decide))) k
        · exact up 4 b2.1 (hq 0 (by decide)) k
    have bB : ∀ k, ab (suB a r i k) ≤ 17179869184 := fun k => by
      unfold suB
      split
      · exact (b5 3 (by decide)).2 k
      · split
        · exact up 4 b2.2 (ha _ (by omega)) k
        · exact up 4 b2.2 (ha _ (by omega)) k
    have e := dot_err (A := suA q r i) (B := suB a r i) (n := suN r i) (X := 1073741840) (Y := 17179869184) (Z := 180000000000) (fun k _ => bA k) (fun k _ => bB k) (by decide) (by decide) (by unfold suN; split <;> decide) (by decide)
    have es : tuS q a r (i + 1) = sg (fun k => suA q r i k * suB a r i k) (suN r i) := by
      unfold tuS
      rw [if_neg (by omega), Nat.add_sub_cancel]
    rw [es]
    exact ⟨e.1, e.2.2, by unfold tnHj tnI; rw [if_neg h, Nat.add_sub_cancel, sA, sB]; exact e.2.1⟩
include hq ha in
theorem tu_flag : tuH q a = false := by
  unfold tuH
  rw [cl_orB fun i hi => satH_sb (sb_ab (hq i hi) (by decide)), cl_orB fun i hi => satH_sb (sb_ab (ha i hi) (by decide)), cl_orB fun r hr => ?_]; rfl
  unfold tnB
  have h0 := (tu_near hq ha hr (show 0 < 4 by decide)).2.2
  unfold tnHj at h0
  rw [if_pos rfl] at h0
  rw [h0, cl_orB fun i hi => ?_]; rfl
  have h1 := (tu_near hq ha hr (show i + 1 < 4 by omega)).2.2
  unfold tnHj at h1
  rw [if_neg (by omega), Nat.add_sub_cancel] at h1
  exact h1
end
theorem ros_bd {Q : Nat → Int} {X : Int} (h : ∀ i, i < 4 → ab (Q i) ≤ X) {k : Nat} (hk : k < 9) : ab (roS Q k) ≤ 4 * (X * X) := by
  unfold roS
  refine Int.le_trans (sg_ab _ _) (Int.le_trans (sg_le (g := fun _ => X * X) fun j hj => ab_mul_le (ro_bd h hk hj).1 (ro_bd h hk hj).2) ?_)
  rw [sg_const]; exact Int.le_refl _
/-- The law, in numbers. -/
theorem jt_law {q a d : Nat → Int} (hq : ∀ i, i < 4 → ab (q i) ≤ 1073741840) (hd : ∀ i, i < 4 → ab (d i) ≤ 1048576) (ha : ∀ i, i < 3 → ab (a i) ≤ 17179869184) :
    roH q = false ∧ apH (roV q) a = false ∧ roH (fun k => q k + d k) = false ∧ apH (roV (fun k => q k + d k)) a = false ∧
    ∀ i, i < 3 → dotH 30 (fun k => tuF q a (i * 4 + k)) d 4 = false ∧ ab (apV (roV q) a i) ≤ 1000000000000 ∧ ab (apV (roV (fun k => q k + d k)) a i) ≤ 1000000000000 ∧ ab (dotV 30 (fun k => tuF q a (i * 4 + k)) d 4) ≤ 704000000 ∧
      ab (apV (roV (fun k => q k + d k)) a i - apV (roV q) a i - dotV 30 (fun k => tuF q a (i * 4 + k)) d 4) ≤ 1048576 := by
  have X := ap_near (Q := q) (fun i hi => Int.le_trans (hq i hi) (by decide)) ha
  have Y := ap_near (Q := fun k => q k + d k) (fun i hi => by have := ab_add (q i) (d i); have := hq i hi; have := hd i hi; omega) ha
  refine ⟨X.1, X.2.1, Y.1, Y.2.1, fun i hi => ?_⟩
  have T := fun j hj => tu_near hq ha (r := i) (j := j) hi hj
  have D := dot_err (A := fun k => tuF q a (i * 4 + k)) (B := d) (n := 4) (X := 180000000000) (Y := 1048576) (Z := 704000000) (fun k hk => (T k hk).2.1) hd (by decide) (by decide) (by decide) (by decide)
  refine ⟨D.2.1, (X.2.2 i hi).2, (Y.2.2 i hi).2, D.2.2, ?_⟩
  have id := jt_id q d a i hi
  have x := ab_le (X.2.2 i hi).1
  have y := ab_le (Y.2.2 i hi).1
  have r0 := ab_mul_le (ros_bd hd (k := 3 * i) (by omega)) (ha 0 (by decide))
  have r1 := ab_mul_le (ros_bd hd (k := 3 * i + 1) (by omega)) (ha 1 (by decide))
  have r2 := ab_mul_le (ros_bd hd (k := 3 * i + 2) (by omega)) (ha 2 (by decide))
  have e0 := ab_le (ab_mul_le (show ab (1073741824 * tuF q a (i * 4 + 0) - tuS q a i 0) ≤ 536870912 by have := (T 0 (by decide)).1; omega) (hd 0 (by decide)))
  have e1 := ab_le (ab_mul_le (show ab (1073741824 * tuF q a (i * 4 + 1) - tuS q a i 1) ≤ 536870912 by have := (T 1 (by decide)).1; omega) (hd 1 (by decide)))
  have e2 := ab_le (ab_mul_le (show ab (1073741824 * tuF q a (i * 4 + 2) - tuS q a i 2) ≤ 536870912 by have := (T 2 (by decide)).1; omega) (hd 2 (by decide)))
  have e3 := ab_le (ab_mul_le (show ab (1073741824 * tuF q a (i * 4 + 3) - tuS q a i 3) ≤ 536870912 by have := (T 3 (by decide)).1; omega) (hd 3 (by decide)))
  rw [Int.sub_mul, Int.mul_assoc] at e0 e1 e2 e3
  have dd := D.1
  have es : sg (fun k => tuF q a (i * 4 + k) * d k) 4 = tuF q a (i * 4 + 0) * d 0 + tuF q a (i * 4 + 1) * d 1 + tuF q a (i * 4 + 2) * d 2 + tuF q a (i * 4 + 3) * d 3 := by simp [sg]
  rw [es] at dd
  have q0 := ab_le r0
  have q1 := ab_le r1
  have q2 := ab_le r2
  generalize apV (roV q) a i = A at *
  generalize apV (roV (fun k => q k + d k)) a i = B at *
  generalize dotV 30 (fun k => tuF q a (i * 4 + k)) d 4 = Z at *
  have dd' := ab_le (show ab (1073741824 * Z - (tuF q a (i * 4 + 0) * d 0 + tuF q a (i * 4 + 1) * d 1 + tuF q a (i * 4 + 2) * d 2 + tuF q a (i * 4 + 3) * d 3)) ≤ 536870912 by omega)
  generalize tuF q a (i * 4 + 0) * d 0 = z0 at *
  generalize tuF q a (i * 4 + 1) * d 1 = z1 at *
  generalize tuF q a (i * 4 + 2) * d 2 = z2 at *
  generalize tuF q a (i * 4 + 3) * d 3 = z3 at *
  generalize tuS q a i 0 * d 0 = s0 at *
  generalize tuS q a i 1 * d 1 = s1 at *
  generalize tuS q a i 2 * d 2 = s2 at *
  generalize tuS q a i 3 * d 3 = s3 at *
  generalize roS q (3 * i) * a 0 + roS q (3 * i + 1) * a 1 + roS q (3 * i + 2) * a 2 = U at *
  generalize roS (fun k => q k + d k) (3 * i) * a 0 + roS (fun k => q k + d k) (3 * i + 1) * a 1 + roS (fun k => q k + d k) (3 * i + 2) * a 2 = V at *
  refine le_ab ?_
  omega
end Go.Proofs.Ytanmddenleffaaa
