/- Contracts of the program's functions and plain laws, part 20: they hold for all arguments. -/
import Derived.Test.YtgpnopiinogkmaaQ19
import Derived.Test.YtgpnopiinogkmaaQ06
import Derived.Test.YtgpnopiinogkmaaQ09
import Derived.Test.YtgpnopiinogkmaaQ14
import Derived.Test.YtgpnopiinogkmaaQ05
import Derived.OpenShut
import Derived.ProofKit
import Derived.Carry
/- Turns about the upright axis multiply as points of the plane; what a step leaves between the estimate and the polynomials. No program. -/
namespace Go.Proofs.Ytgpnopiinogkmaa
set_option maxRecDepth 100000
theorem cross_bd {a b c d M m : Int} (hM : 0 ≤ M) (hm : 0 ≤ m) (h1 : a * a + b * b ≤ M * M) (h2 : c * c + d * d ≤ m * m) : -(M * m) ≤ a * c + b * d ∧ a * c + b * d ≤ M * m := by
  refine sq_up (Int.mul_nonneg hM hm) ?_
  have e : (a * c + b * d) * (a * c + b * d) + (a * d - b * c) * (a * d - b * c) = (a * a + b * b) * (c * c + d * d) := by grind
  have q := sq_nonneg (a * d - b * c)
  have p : 0 ≤ c * c + d * d := by have := sq_nonneg c; have := sq_nonneg d; omega
  have k := Int.mul_le_mul h1 h2 p (Int.mul_nonneg hM hM)
  have f : M * M * (m * m) = M * m * (M * m) := by grind
  omega
theorem cross_bd2 {a b c d M m : Int} (hM : 0 ≤ M) (hm : 0 ≤ m) (h1 : a * a + b * b ≤ M * M) (h2 : c * c + d * d ≤ m * m) : -(M * m) ≤ a * c - b * d ∧ a * c - b * d ≤ M * m := by
  have k := cross_bd (a := a) (b := -b) (c := c) (d := d) hM hm (by rw [Int.neg_mul_neg]; exact h1) h2
  rw [Int.neg_mul] at k
  omega
theorem sq_two {a b e : Int} {m : Int} (ha : -e ≤ a ∧ a ≤ e) (hb : -e ≤ b ∧ b ≤ e) (h : 2 * (e * e) ≤ m * m) : a * a + b * b ≤ m * m := by
  have := mul_bd ha ha
  have := mul_bd hb hb
  omega
theorem q4_0 (a b c d : Int) : q4 a b c d 0 = a := rfl
theorem q4_1 (a b c d : Int) : q4 a b c d 1 = b := rfl
theorem q4_2 (a b c d : Int) : q4 a b c d 2 = c := rfl
theorem q4_3 (a b c d : Int) : q4 a b c d 3 = d := rfl
/-- The product of two. -/
theorem up_qm {S E : Nat → Int} (s1 : S 1 = 0) (s2 : S 2 = 0) (uS : UnitQ S) (e1 : E 1 = 0) (e2 : E 2 = 0) (uE : UnitQ E) :
    qmV S E 1 = 0 ∧ qmV S E 2 = 0 ∧ (-1073741824 ≤ 2 * (1073741824 * qmV S E 0 - (S 0 * E 0 - S 3 * E 3)) ∧ 2 * (1073741824 * qmV S E 0 - (S 0 * E 0 - S 3 * E 3)) ≤ 1073741824) ∧
    (-1073741824 ≤ 2 * (1073741824 * qmV S E 3 - (S 0 * E 3 + S 3 * E 0)) ∧ 2 * (1073741824 * qmV S E 3 - (S 0 * E 3 + S 3 * E 0)) ≤ 1073741824) := by
  have bS := uS.1
  have bE := uE.1
  have nS := uS.2
  have nE := uE.2
  rw [s1, s2] at nS
  rw [e1, e2] at nE
  have b0 := bS 0 (by decide)
  have b3 := bS 3 (by decide)
  have c0 := bE 0 (by decide)
  have c3 := bE 3 (by decide)
  have v : ∀ x : Int, -1073741840 ≤ x ∧ x ≤ 1073741840 → satV x = x := fun x hx => satV_id (by omega) (by omega)
  have z0 : satV 0 = 0 := by decide
  have a0 : satA S 0 = S 0 := v _ b0
  have a1 : satA S 1 = 0 := by unfold satA; rw [s1]; exact z0
  have a2 : satA S 2 = 0 := by unfold satA; rw [s2]; exact z0
  have a3 : satA S 3 = S 3 := v _ b3
  have g0 : satA E 0 = E 0 := v _ c0
  have g1 : satA E 1 = 0 := by unfold satA; rw [e1]; exact z0
  have g2 : satA E 2 = 0 := by unfold satA; rw [e2]; exact z0
  have g3 : satA E 3 = E 3 := v _ c3
  have m1 := mul_bd b0 c0
  have m2 := mul_bd b3 c3
  have m3 := mul_bd b0 c3
  have m4 := mul_bd b3 c0
  have z : ∀ x : Int, satV (-0) = 0 := fun _ => by decide
  have dd : dotS (satA S) (qmR (satA E) 0) 4 = S 0 * E 0 - S 3 * E 3 ∧ dotS (satA S) (qmR (satA E) 1) 4 = 0 ∧ dotS (satA S) (qmR (satA E) 2) 4 = 0 ∧ dotS (satA S) (qmR (satA E) 3) 4 = S 0 * E 3 + S 3 * E 0 := by
    have w0 := v _ b0
    have w3 := v _ b3
    have x0 := v _ c0
    have x3 := v _ c3
    have y3 := v (-E 3) ⟨by omega, by omega⟩
    simp only [dotS, qmR, q4, a0, a1, a2, a3, g0, g1, g2, g3]
    simp [w0, w3, x0, x3, y3, z0, Int.mul_neg]
    clear m1 m2 m3 m4 nS nE
    omega
  have q0 : qmV S E 0 = rsh (S 0 * E 0 - S 3 * E 3) 30 := by
    have r := rsh_err (S 0 * E 0 - S 3 * E 3)
    unfold qmV dotV
    rw [if_neg (by decide), dd.1]
    exact satV_id (by show _ ≤ rsh _ 30; omega) (by show rsh _ 30 ≤ _; omega)
  have q3 : qmV S E 3 = rsh (S 0 * E 3 + S 3 * E 0) 30 := by
    have r := rsh_err (S 0 * E 3 + S 3 * E 0)
    unfold qmV dotV
    rw [if_neg (by decide), dd.2.2.2]
    exact satV_id (by show _ ≤ rsh _ 30; omega) (by show rsh _ 30 ≤ _; omega)
  have q1 : qmV S E 1 = 0 := by unfold qmV dotV; rw [if_neg (by decide), dd.2.1]; decide
  have q2 : qmV S E 2 = 0 := by unfold qmV dotV; rw [if_neg (by decide), dd.2.2.1]; decide
  have r0 := rsh_err (S 0 * E 0 - S 3 * E 3)
  have r3 := rsh_err (S 0 * E 3 + S 3 * E 0)
  rw [← q0] at r0
  rw [← q3] at r3
  exact ⟨q1, q2, r0, r3⟩
/-- The product, made a unit. -/
theorem up_mul {S E : Nat → Int} (s1 : S 1 = 0) (s2 : S 2 = 0) (uS : UnitQ S) (e1 : E 1 = 0) (e2 : E 2 = 0) (uE : UnitQ E) :
    uniV (qmV S E) 1 = 0 ∧ uniV (qmV S E) 2 = 0 ∧ UnitQ (uniV (qmV S E)) ∧
    (-88046829568 ≤ 1073741824 * uniV (qmV S E) 0 - (S 0 * E 0 - S 3 * E 3) ∧ 1073741824 * uniV (qmV S E) 0 - (S 0 * E 0 - S 3 * E 3) ≤ 88046829568) ∧
    (-88046829568 ≤ 1073741824 * uniV (qmV S E) 3 - (S 0 * E 3 + S 3 * E 0) ∧ 1073741824 * uniV (qmV S E) 3 - (S 0 * E 3 + S 3 * E 0) ≤ 88046829568) := by
  obtain ⟨q1, q2, r0, r3⟩ := up_qm s1 s2 uS e1 e2 uE
  have bS := uS.1
  have bE := uE.1
  have nS := uS.2
  have nE := uE.2
  rw [s1, s2] at nS
  rw [e1, e2] at nE
  have b0 := bS 0 (by decide)
  have b3 := bS 3 (by decide)
  have c0 := bE 0 (by decide)
  have c3 := bE 3 (by decide)
  have m1 := mul_bd b0 c0
  have m2 := mul_bd b3 c3
  have m3 := mul_bd b0 c3
  have m4 := mul_bd b3 c0
  refine ⟨rs_uni0 q1 (by decide), rs_uni0 q2 (by decide), unit_good _, ?_⟩
  have eq : ∀ i, i < 4 → qmV S E i = q4 (qmV S E 0) 0 0 (qmV S E 3) i := fun i hi => by
    rcases (show i = 0 ∨ i = 1 ∨ i = 2 ∨ i = 3 by omega) with rfl | rfl | rfl | rfl
    · rw [q4_0]
    · rw [q1, q4_1]
    · rw [q2, q4_2]
    · rw [q4_3]
  have un := (ur_uni eq).1
  rw [un 0 (by decide), un 3 (by decide)]
  obtain ⟨c, hc⟩ : ∃ c, qmV S E 0 = c := ⟨_, rfl⟩
  obtain ⟨s, hs⟩ : ∃ c, qmV S E 3 = c := ⟨_, rfl⟩
  rw [hc] at r0 ⊢
  rw [hs] at r3 ⊢
  clear un eq q1 q2 hc hs
  -- the length
  obtain ⟨A, hA⟩ : ∃ A, S 0 * E 0 - S 3 * E 3 = A := ⟨_, rfl⟩
  obtain ⟨B, hB⟩ : ∃ B, S 0 * E 3 + S 3 * E 0 = B := ⟨_, rfl⟩
  have nn : A * A + B * B = (S 0 * S 0 + S 3 * S 3) * (E 0 * E 0 + E 3 * E 3) := by rw [← hA, ← hB]; grind
  have Ab : -2305843079932379648 ≤ A ∧ A ≤ 2305843079932379648 := by omega
  have Bb : -2305843079932379648 ≤ B ∧ B ≤ 2305843079932379648 := by omega
  rw [hA] at r0 ⊢
  rw [hB] at r3 ⊢
  have l1 := Int.mul_le_mul (show S 0 * S 0 + S 3 * S 3 ≤ 1152921508901814272 by omega) (show E 0 * E 0 + E 3 * E 3 ≤ 1152921508901814272 by omega) (by omega) (by decide)
  have l2 := Int.mul_le_mul (show 1152921500311879680 ≤ S 0 * S 0 + S 3 * S 3 by omega) (show 1152921500311879680 ≤ E 0 * E 0 + E 3 * E 3 by omega) (by decide) (by omega)
  obtain ⟨x, hx⟩ : ∃ x, 1073741824 * c - A = x := ⟨_, rfl⟩
  obtain ⟨y, hy⟩ : ∃ x, 1073741824 * s - B = x := ⟨_, rfl⟩
  rw [hx] at r0
  rw [hy] at r3
  have xb : -536870912 ≤ x ∧ x ≤ 536870912 := by omega
  have yb : -536870912 ≤ y ∧ y ≤ 536870912 := by omega
  have id : 1152921504606846976 * (c * c + s * s) = (A * A + B * B) + 2 * (A * x + B * y) + (x * x + y * y) := by
    have f1 : 1073741824 * c = A + x := by omega
    have f2 : 1073741824 * s = B + y := by omega
    have f : 1152921504606846976 * (c * c + s * s) = (1073741824 * c) * (1073741824 * c) + (1073741824 * s) * (1073741824 * s) := by grind
    rw [f, f1, f2]; grind
  have t1 := mul_bd Ab xb
  have t2 := mul_bd Bb yb
  have t3 := mul_bd xb xb
  have t4 := mul_bd yb yb
  rw [← nn] at l1 l2
  have hn : 1152921468099624960 ≤ c * c + s * s ∧ c * c + s * s ≤ 1152921541114068992 := by
    clear hA hB hx hy Ab Bb xb yb m1 m2 m3 m4 r0 r3 nn bS bE nS nE b0 b3 c0 c3
    generalize A * x = p1 at *
    generalize B * y = p2 at *
    generalize x * x = p3 at *
    generalize y * y = p4 at *
    generalize A * A + B * B = p5 at *
    generalize c * c + s * s = p6 at *
    omega
  have c2 := sq_nonneg c
  have s2 := sq_nonneg s
  have k := uni_up (c := c) (s := s) (sq_up (by decide) (by clear id t1 t2 t3 t4 l1 l2 nn; omega)) (sq_up (by decide) (by clear id t1 t2 t3 t4 l1 l2 nn; omega)) hn
  clear t1 t2 t3 t4 l1 l2 id nn m1 m2 m3 m4
  generalize uniV (q4 c 0 0 s) 0 = u at *
  generalize uniV (q4 c 0 0 s) 3 = w at *
  omega
/-- One microstep: the polynomials' values change by little. -/
theorem an_micro {h d : Int} (hh : -1720184150 ≤ h ∧ h ≤ 1720184150) (hd : -1 ≤ d ∧ d ≤ 1) (hk : -1720184150 ≤ h + d ∧ h + d ≤ 1720184150) :
    (-(7 * 1073741824 ^ 12) ≤ anC (h + d) - anC h ∧ anC (h + d) - anC h ≤ 7 * 1073741824 ^ 12) ∧ (-(7 * 1073741824 ^ 12) ≤ anS (h + d) - anS h ∧ anS (h + d) - anS h ≤ 7 * 1073741824 ^ 12) := by
  obtain ⟨k1, k2⟩ := an_add (h := h) (y := d) hh ⟨by omega, by omega⟩ hk
  obtain ⟨b1, b2⟩ := an_bd hh
  have c : (-(1073741824 ^ 12) ≤ cF d - 1073741824 ^ 13 ∧ cF d - 1073741824 ^ 13 ≤ 1073741824 ^ 12) ∧ (-(2 * 1073741824 ^ 12) ≤ sF d ∧ sF d ≤ 2 * 1073741824 ^ 12) := by
    rcases (show d = -1 ∨ d = 0 ∨ d = 1 by omega) with rfl | rfl | rfl <;> decide +kernel
  obtain ⟨x, hx⟩ : ∃ x, cF d - 1073741824 ^ 13 = x := ⟨_, rfl⟩
  rw [hx] at c
  have m1 := mul_bd b1 c.1
  have m2 := mul_bd b2 c.2
  have m3 := mul_bd b2 c.1
  have m4 := mul_bd b1 c.2
  have e1 : cF d = 1073741824 ^ 13 + x := by omega
  unfold AddE at k1 k2
  rw [e1, Int.mul_add] at k1 k2
  generalize anC (h + d) = u0 at *
  generalize anS (h + d) = u3 at *
  generalize anC h = t0 at *
  generalize anS h = t3 at *
  generalize sF d = f at *
  generalize t0 * x = p1 at *
  generalize t3 * f = p2 at *
  generalize t3 * x = p3 at *
  generalize t0 * f = p4 at *
  omega
/-- What lies between the estimate and the polynomials grows by little in a step. -/
theorem tu_step {h y d h2 B : Int} {S E R : Nat → Int} (hh : -1686629713 ≤ h ∧ h ≤ 1686629713) (hy : -33554433 ≤ y ∧ y ≤ 33554433) (hd : -1 ≤ d ∧ d ≤ 1) (e2 : h2 = h + y + d)
    (c0 : NrK 92 (E 0) (anC y)) (c3 : NrK 92 (E 3) (anS y)) (nE : E 0 * E 0 + E 3 * E 3 ≤ 1152921508901814272) (nR : R 0 * R 0 + R 3 * R 3 ≤ 1152921508901814272)
    (r0 : -88046829568 ≤ 1073741824 * R 0 - (S 0 * E 0 - S 3 * E 3) ∧ 1073741824 * R 0 - (S 0 * E 0 - S 3 * E 3) ≤ 88046829568)
    (r3 : -88046829568 ≤ 1073741824 * R 3 - (S 0 * E 3 + S 3 * E 0) ∧ 1073741824 * R 3 - (S 0 * E 3 + S 3 * E 0) ≤ 88046829568)
    (hB : 0 ≤ B ∧ B ≤ 100000) (hD : -(B * 1073741824 ^ 13) ≤ anC h * S 3 - anS h * S 0 ∧ anC h * S 3 - anS h * S 0 ≤ B * 1073741824 ^ 13) :
    -((B + 330) * 1073741824 ^ 13) ≤ anC h2 * R 3 - anS h2 * R 0 ∧ anC h2 * R 3 - anS h2 * R 0 ≤ (B + 330) * 1073741824 ^ 13 := by
  subst e2
  obtain ⟨k1, k2⟩ := an_add (h := h) (y := y) ⟨by omega, by omega⟩ ⟨by omega, by omega⟩ ⟨by omega, by omega⟩
  obtain ⟨j1, j2⟩ := an_micro (h := h + y) (d := d) ⟨by omega, by omega⟩ hd ⟨by omega, by omega⟩
  have nT := an_norm (h := h) ⟨by omega, by omega⟩
  have cy : anC y = cF y := by unfold anC; rw [if_neg (by omega), if_neg (by omega)]
  have sy : anS y = sF y := by unfold anS; rw [if_neg (by omega), if_neg (by omega)]
  rw [cy] at c0
  rw [sy] at c3
  unfold NrK at c0 c3
  unfold AddE at k1 k2
  clear cy sy hh hy hd
  generalize anC (h + y + d) = u0 at *
  generalize anS (h + y + d) = u3 at *
  generalize anC (h + y) = t0 at *
  generalize anS (h + y) = t3 at *
  generalize anC h = T0 at *
  generalize anS h = T3 at *
  generalize cF y = p at *
  generalize sF y = q at *
  generalize E 0 = E0 at *
  generalize E 3 = E3 at *
  generalize S 0 = S0 at *
  generalize S 3 = S3 at *
  generalize R 0 = R0 at *
  generalize R 3 = R3 at *
  have nT2 : T0 * T0 + T3 * T3 ≤ (1073741825 * 1073741824 ^ 12) * (1073741825 * 1073741824 ^ 12) := by
    have e : (1073741825 * 1073741824 ^ 12 : Int) * (1073741825 * 1073741824 ^ 12) ≥ 1073741824 ^ 26 + 1073741824 ^ 25 := by decide
    omega
  -- the polynomials' product by the turn
  obtain ⟨x0, hx0⟩ : ∃ x, 1073741824 ^ 12 * E0 - p = x := ⟨_, rfl⟩
  obtain ⟨x3, hx3⟩ : ∃ x, 1073741824 ^ 12 * E3 - q = x := ⟨_, rfl⟩
  rw [hx0] at c0
  rw [hx3] at c3
  have nx : x0 * x0 + x3 * x3 ≤ (131 * 1073741824 ^ 12) * (131 * 1073741824 ^ 12) := sq_two c0 c3 (by decide)
  have nx' : x3 * x3 + x0 * x0 ≤ (131 * 1073741824 ^ 12) * (131 * 1073741824 ^ 12) := by omega
  have w0 := cross_bd2 (by decide) (by decide) nT2 nx
  have w3 := cross_bd (by decide) (by decide) nT2 nx'
  have i0 : 1073741824 ^ 12 * (T0 * E0 - T3 * E3) = (T0 * p - T3 * q) + (T0 * x0 - T3 * x3) := by rw [← hx0, ← hx3]; grind
  have i3 : 1073741824 ^ 12 * (T0 * E3 + T3 * E0) = (T3 * p + T0 * q) + (T0 * x3 + T3 * x0) := by rw [← hx0, ← hx3]; grind
  have a0 : -(142 * 1073741824 ^ 13) ≤ (T0 * E0 - T3 * E3) - 1073741824 * u0 ∧ (T0 * E0 - T3 * E3) - 1073741824 * u0 ≤ 142 * 1073741824 ^ 13 := by
    generalize T0 * x0 - T3 * x3 = g1 at *
    generalize T0 * p - T3 * q = g2 at *
    generalize T0 * E0 - T3 * E3 = g3 at *
    clear nT nT2 nx nx' k2 j2 w3 i3 nE nR hD r0 r3
    omega
  have a3 : -(142 * 1073741824 ^ 13) ≤ (T0 * E3 + T3 * E0) - 1073741824 * u3 ∧ (T0 * E3 + T3 * E0) - 1073741824 * u3 ≤ 142 * 1073741824 ^ 13 := by
    generalize T0 * x3 + T3 * x0 = g1 at *
    generalize T3 * p + T0 * q = g2 at *
    generalize T0 * E3 + T3 * E0 = g3 at *
    clear nT nT2 nx nx' k1 j1 w0 i0 nE nR hD r0 r3
    omega
  clear i0 i3 w0 w3 nx nx' hx0 hx3 c0 c3 k1 k2 j1 j2
  -- the cross products
  obtain ⟨U0, hU0⟩ : ∃ x, T0 * E0 - T3 * E3 = x := ⟨_, rfl⟩
  obtain ⟨U3, hU3⟩ : ∃ x, T0 * E3 + T3 * E0 = x := ⟨_, rfl⟩
  obtain ⟨V0, hV0⟩ : ∃ x, S0 * E0 - S3 * E3 = x := ⟨_, rfl⟩
  obtain ⟨V3, hV3⟩ : ∃ x, S0 * E3 + S3 * E0 = x := ⟨_, rfl⟩
  have main : U0 * V3 - U3 * V0 = (E0 * E0 + E3 * E3) * (T0 * S3 - T3 * S0) := by rw [← hU0, ← hU3, ← hV0, ← hV3]; grind
  have nU : U0 * U0 + U3 * U3 = (T0 * T0 + T3 * T3) * (E0 * E0 + E3 * E3) := by rw [← hU0, ← hU3]; grind
  rw [hU0] at a0
  rw [hU3] at a3
  rw [hV0] at r0
  rw [hV3] at r3
  obtain ⟨y0, hy0⟩ : ∃ x, U0 - 1073741824 * u0 = x := ⟨_, rfl⟩
  obtain ⟨y3, hy3⟩ : ∃ x, U3 - 1073741824 * u3 = x := ⟨_, rfl⟩
  obtain ⟨z0, hz0⟩ : ∃ x, 1073741824 * R0 - V0 = x := ⟨_, rfl⟩
  obtain ⟨z3, hz3⟩ : ∃ x, 1073741824 * R3 - V3 = x := ⟨_, rfl⟩
  rw [hy0] at a0
  rw [hy3] at a3
  rw [hz0] at r0
  rw [hz3] at r3
  have pE : 0 ≤ E0 * E0 + E3 * E3 := by have := sq_nonneg E0; have := sq_nonneg E3; omega
  have nU2 : U0 * U0 + U3 * U3 ≤ (1073741827 * 1073741824 ^ 13) * (1073741827 * 1073741824 ^ 13) := by
    have l := Int.mul_le_mul (show T0 * T0 + T3 * T3 ≤ 1073741824 ^ 26 + 1073741824 ^ 25 by omega) nE pE (by decide)
    have e : (1073741827 * 1073741824 ^ 13 : Int) * (1073741827 * 1073741824 ^ 13) ≥ (1073741824 ^ 26 + 1073741824 ^ 25) * 1152921508901814272 := by decide
    omega
  have nz : z3 * z3 + z0 * z0 ≤ (116 * 1073741824) * (116 * 1073741824) := sq_two r3 r0 (by decide)
  have ny : y0 * y0 + y3 * y3 ≤ (201 * 1073741824 ^ 13) * (201 * 1073741824 ^ 13) := sq_two a0 a3 (by decide)
  have nR2 : R3 * R3 + R0 * R0 ≤ 1073741826 * 1073741826 := by omega
  have f1 := cross_bd2 (by decide) (by decide) nU2 nz
  have f2 := cross_bd2 (by decide) (by decide) ny nR2
  have f3 := mul_bd (x := E0 * E0 + E3 * E3) (y := T0 * S3 - T3 * S0) (X := 1152921508901814272) (Y := B * 1073741824 ^ 13) ⟨by omega, nE⟩ hD
  rw [← main] at f3
  have id : 1152921504606846976 * (u0 * R3 - u3 * R0) = (U0 * V3 - U3 * V0) + (U0 * z3 - U3 * z0) - 1073741824 * (y0 * R3 - y3 * R0) := by
    have g1 : 1073741824 * u0 = U0 - y0 := by omega
    have g2 : 1073741824 * u3 = U3 - y3 := by omega
    have g3 : 1073741824 * R0 = V0 + z0 := by omega
    have g4 : 1073741824 * R3 = V3 + z3 := by omega
    have g : 1152921504606846976 * (u0 * R3 - u3 * R0) = (1073741824 * u0) * (1073741824 * R3) - (1073741824 * u3) * (1073741824 * R0) := by grind
    rw [g, g1, g2]
    have g5 : (U0 - y0) * (1073741824 * R3) - (U3 - y3) * (1073741824 * R0) = U0 * (1073741824 * R3) - U3 * (1073741824 * R0) - 1073741824 * (y0 * R3 - y3 * R0) := by grind
    rw [g5, g3, g4]; grind
  generalize u0 * R3 - u3 * R0 = D2 at *
  generalize U0 * V3 - U3 * V0 = b1 at *
  generalize U0 * z3 - U3 * z0 = b2 at *
  generalize y0 * R3 - y3 * R0 = b3 at *
  clear main nU nU2 nz ny nR2 nT nT2 pE nE nR hD hU0 hU3 hV0 hV3 hy0 hy3 hz0 hz3 r0 r3 a0 a3
  omega
end Go.Proofs.Ytgpnopiinogkmaa
/- A call's own blocks as a list: what holds of them all, whatever is called between. -/
namespace Go.Proofs.Ytgpnopiinogkmaa
open Go.RowKit
theorem ls_row_other {w : World} {g : Nat} (cs : Array Value) {p : Addr} (h : p.block ≠ g) : (w.setRow g cs).cell? p = w.cell? p ∧ (w.setRow g cs).frozen? p = w.frozen? p := by
  have e := Go.setRow_other w g p.block cs h
  constructor
  · simp only [World.cell?, e]
  · simp only [World.frozen?, e]
/-- A block of numbers: where, of what type, how many, which. -/
structure Lx where
  b : Nat
  T : Nat
  n : Nat
  F : Nat → Int
/-- The flag at c is h; the blocks E lie from w's end to top. -/
structure LsR (c : Addr) (h : Bool) (E : List Lx) (top : Nat) (w wr : World) : Prop where
  upd : Upd c h w wr
  cell : wr.cell? c = some (.bool h)
  free : wr.frozen? c = false
  cb : c.block < w.heap.size
  ex : ∀ e, e ∈ E → Blk wr e.b e.T e.n e.F ∧ w.heap.size ≤ e.b ∧ e.b < top
  lim : w.heap.size ≤ top
  le : top ≤ wr.heap.size
section
variable {c : Addr} {h h' : Bool} {E : List Lx} {top : Nat} {w wr w' : World}
theorem LsR.upd' (s : LsR c h E top w wr) (u : Upd c h' wr w') : LsR c h' E top w w' := by
  have hcb := s.cb
  have hl := s.lim
  exact ⟨s.upd.trans u, u.cellc s.cell, (u.frozen (World.block_lt_of_cell? _ _ s.cell)).trans s.free, s.cb, fun e he => ⟨(s.ex e he).1.upd u (by have := (s.ex e he).2.1; omega), (s.ex e he).2⟩, s.lim, Nat.le_trans s.le u.size⟩
theorem LsR.low (s : LsR c h E top w wr) (u : Below top wr w') (hz : top ≤ w'.heap.size) : LsR c h E top w w' := by
  have hcb := s.cb
  have hl := s.lim
  exact ⟨s.upd.then' (u.mono (by omega)), (u.cell (by omega)).trans s.cell, (u.frozen (by omega)).trans s.free, s.cb, fun e he => ⟨(u.block _ (s.ex e he).2.2).trans (s.ex e he).1, (s.ex e he).2⟩, s.lim, hz⟩
theorem LsR.down (s : LsR c h E top w wr) (u : Below wr.heap.size wr w') : LsR c h E top w w' := s.low (u.mono s.le) (Nat.le_trans s.le u.size)
theorem LsR.drew (s : LsR c h E top w wr) : LsR c h E top w wr.drew := s.down (Below.drew (Below.refl _ _))
theorem LsR.alloc (s : LsR c h E top w wr) (o : Obj) : LsR c h E top w (wr.alloc o) := s.down ((Below.refl _ _).alloc (Nat.le_refl _) o)
/-- One more block, laid at the end. -/
theorem LsR.lay (s : LsR c h E top w wr) (T n : Nat) (F : Nat → Int) : LsR c h (⟨wr.heap.size, T, n, F⟩ :: E) (wr.heap.size + 1) w (wr.alloc (.cells (arrv n F) T)) := by
  have k := s.alloc (.cells (arrv n F) T)
  have hl := s.lim
  have hle := s.le
  refine ⟨k.upd, k.cell, k.free, k.cb, fun e he => ?_, by omega, by simp⟩
  rcases List.mem_cons.1 he with rfl | he
  · exact ⟨Blk.new _ _ _ _, by simp only; omega, by simp⟩
  · have := k.ex e he
    exact ⟨this.1, this.2.1, by omega⟩
/-- .. and filled. -/
theorem LsR.put (s : LsR c h E top w wr) (T n : Nat) (G F : Nat → Int) : LsR c h (⟨wr.heap.size, T, n, F⟩ :: E) (wr.heap.size + 1) w ((wr.alloc (.cells (arrv n G) T)).setRow wr.heap.size (arrv n F)) := by
  have hl := s.lim
  have hle := s.le
  have b : Below wr.heap.size wr ((wr.alloc (.cells (arrv n G) T)).setRow wr.heap.size (arrv n F)) := below_row ((Below.refl _ _).alloc (Nat.le_refl _) _) (Nat.le_refl _) _
  have k := s.down b
  refine ⟨k.upd, k.cell, k.free, k.cb, fun e he => ?_, by omega, by rw [setRow_size]; simp⟩
  rcases List.mem_cons.1 he with rfl | he
  · exact ⟨(Blk.new _ _ _ _).setRow F, by simp only; omega, by simp⟩
  · have := k.ex e he
    exact ⟨this.1, this.2.1, by omega⟩
theorem LsR.e0 {b T n : Nat} {F : Nat → Int} (s : LsR c h (⟨b, T, n, F⟩ :: E) top w wr) : Blk wr b T n F := (s.ex _ (.head _)).1
theorem LsR.tail {a : Lx} (s : LsR c h (a :: E) top w wr) : LsR c h E top w wr := ⟨s.upd, s.cell, s.free, s.cb, fun e he => s.ex e (.tail _ he), s.lim, s.le⟩
theorem LsR.e1 {a : Lx} {b T n : Nat} {F : Nat → Int} (s : LsR c h (a :: ⟨b, T, n, F⟩ :: E) top w wr) : Blk wr b T n F := s.tail.e0
theorem LsR.e2 {a a2 : Lx} {b T n : Nat} {F : Nat → Int} (s : LsR c h (a :: a2 :: ⟨b, T, n, F⟩ :: E) top w wr) : Blk wr b T n F := s.tail.e1
theorem LsR.e3 {a a2 a3 : Lx} {b T n : Nat} {F : Nat → Int} (s : LsR c h (a :: a2 :: a3 :: ⟨b, T, n, F⟩ :: E) top w wr) : Blk wr b T n F := s.tail.e2
theorem LsR.e4 {a a2 a3 a4 : Lx} {b T n : Nat} {F : Nat → Int} (s : LsR c h (a :: a2 :: a3 :: a4 :: ⟨b, T, n, F⟩ :: E) top w wr) : Blk wr b T n F := s.tail.e3
theorem LsR.e5 {a a2 a3 a4 a5 : Lx} {b T n : Nat} {F : Nat → Int} (s : LsR c h (a :: a2 :: a3 :: a4 :: a5 :: ⟨b, T, n, F⟩ :: E) top w wr) : Blk wr b T n F := s.tail.e4
theorem LsR.e6 {a a2 a3 a4 a5 a6 : Lx} {b T n : Nat} {F : Nat → Int} (s : LsR c h (a :: a2 :: a3 :: a4 :: a5 :: a6 :: ⟨b, T, n, F⟩ :: E) top w wr) : Blk wr b T n F := s.tail.e5
theorem LsR.e7 {a a2 a3 a4 a5 a6 a7 : Lx} {b T n : Nat} {F : Nat → Int} (s : LsR c h (a :: a2 :: a3 :: a4 :: a5 :: a6 :: a7 :: ⟨b, T, n, F⟩ :: E) top w wr) : Blk wr b T n F := s.tail.e6
/-- The first block's row stored. -/
theorem LsR.row {b T n : Nat} {F : Nat → Int} (s : LsR c h (⟨b, T, n, F⟩ :: E) top w wr) (hn : ∀ e, e ∈ E → e.b ≠ b) (G : Nat → Int) : LsR c h (⟨b, T, n, G⟩ :: E) top w (wr.setRow b (arrv n G)) := by
  have h0 := s.ex _ (.head _)
  have hcb := s.cb
  have hb : w.heap.size ≤ b := h0.2.1
  refine ⟨s.upd.then' (below_row (Below.refl _ _) hb _), by rw [(ls_row_other _ (by omega)).1]; exact s.cell, by rw [(ls_row_other _ (by omega)).2]; exact s.free, s.cb, fun e he => ?_, s.lim, by rw [setRow_size]; exact s.le⟩
  rcases List.mem_cons.1 he with rfl | he
  · exact ⟨h0.1.setRow G, h0.2⟩
  · have := s.ex e (.tail _ he)
    exact ⟨this.1.setRow_other _ (hn e he), this.2⟩
/-- The first block's cell stored. -/
theorem LsR.set {b T n : Nat} {F : Nat → Int} (s : LsR c h (⟨b, T, n, F⟩ :: E) top w wr) (hn : ∀ e, e ∈ E → e.b ≠ b) (i : Nat) (x : Int) : LsR c h (⟨b, T, n, Go.Proofs.Ytgpnopiinogkmaa.upd F i x⟩ :: E) top w (wr.setCell ⟨b, i, none⟩ (.int .i64 x)) := by
  have h0 := s.ex _ (.head _)
  have hcb := s.cb
  have hb : w.heap.size ≤ b := h0.2.1
  have hne : (⟨b, i, none⟩ : Addr) ≠ c := fun e => by rw [← e] at hcb; simp only at hcb; omega
  refine ⟨s.upd.setCell hb _, (World.cell?_setCell_other _ _ _ _ hne).trans s.cell, (World.frozen?_setCell ..).trans s.free, s.cb, fun e he => ?_, s.lim, by rw [setCell_size]; exact s.le⟩
  rcases List.mem_cons.1 he with rfl | he
  · exact ⟨h0.1.set i x, h0.2⟩
  · have := s.ex e (.tail _ he)
    exact ⟨this.1.other (hn e he) _, this.2⟩
theorem LsR.congr {b T n : Nat} {F G : Nat → Int} (s : LsR c h (⟨b, T, n, F⟩ :: E) top w wr) (eh : h = h') (e : ∀ i, i < n → F i = G i) : LsR c h' (⟨b, T, n, G⟩ :: E) top w wr := by
  subst eh
  refine ⟨s.upd, s.cell, s.free, s.cb, fun x hx => ?_, s.lim, s.le⟩
  rcases List.mem_cons.1 hx with rfl | hx
  · exact ⟨s.e0.congr e, (s.ex _ (.head _)).2⟩
  · exact s.ex x (.tail _ hx)
/-- The blocks in another order, or some of them. -/
theorem LsR.sub {E' : List Lx} (s : LsR c h E top w wr) (hs : ∀ e, e ∈ E' → e ∈ E) : LsR c h E' top w wr := ⟨s.upd, s.cell, s.free, s.cb, fun e he => s.ex e (hs e he), s.lim, s.le⟩
/-- A block that was laid somewhere behind the others, filled. -/
theorem LsR.fill {b T n : Nat} {f : Nat → Int} (s : LsR c h E top w wr) (hb : Blk wr b T n f) (ht : top ≤ b) (F : Nat → Int) : LsR c h (⟨b, T, n, F⟩ :: E) (b + 1) w (wr.setRow b (arrv n F)) := by
  have hl := s.lim
  have k := s.low (below_row (Below.refl _ _) ht (arrv n F)) (by rw [setRow_size]; exact s.le)
  refine ⟨k.upd, k.cell, k.free, k.cb, fun e he => ?_, by omega, by rw [setRow_size]; exact hb.lt⟩
  rcases List.mem_cons.1 he with rfl | he
  · exact ⟨hb.setRow F, by simp only; omega, by simp⟩
  · have := k.ex e he
    exact ⟨this.1, this.2.1, by omega⟩
theorem ls_nil (hc : w.cell? c = some (.bool h)) (hf : w.frozen? c = false) : LsR c h [] w.heap.size w w := ⟨Upd.refl hc, hc, hf, World.block_lt_of_cell? w c hc, (fun e he => by cases he), Nat.le_refl _, Nat.le_refl _⟩
end
end Go.Proofs.Ytgpnopiinogkmaa
/- A call's own blocks as a list, where no flag is at hand. -/
namespace Go.Proofs.Ytgpnopiinogkmaa
open Go.RowKit
open Go
set_option maxRecDepth 100000
structure BsR (E : List Lx) (top : Nat) (w wr : World) : Prop where
  below : Below w.heap.size w wr
  ex : ∀ e, e ∈ E → Blk wr e.b e.T e.n e.F ∧ w.heap.size ≤ e.b ∧ e.b < top
  lim : w.heap.size ≤ top
  le : top ≤ wr.heap.size
section
variable {E : List Lx} {top : Nat} {w wr w' : World}
theorem bs_nil (w : World) : BsR [] w.heap.size w w := ⟨Below.refl _ _, (fun e he => by cases he), Nat.le_refl _, Nat.le_refl _⟩
theorem BsR.low (s : BsR E top w wr) (u : Below top wr w') (hz : top ≤ w'.heap.size) : BsR E top w w' :=
  ⟨s.below.trans (u.mono s.lim), fun e he => ⟨(u.block _ (s.ex e he).2.2).trans (s.ex e he).1, (s.ex e he).2⟩, s.lim, hz⟩
theorem BsR.down (s : BsR E top w wr) (u : Below wr.heap.size wr w') : BsR E top w w' := s.low (u.mono s.le) (Nat.le_trans s.le u.size)
theorem BsR.drew (s : BsR E top w wr) : BsR E top w wr.drew := s.down (Below.drew (Below.refl _ _))
theorem BsR.alloc (s : BsR E top w wr) (o : Obj) : BsR E top w (wr.alloc o) := s.down ((Below.refl _ _).alloc (Nat.le_refl _) o)
theorem BsR.lay (s : BsR E top w wr) (T n : Nat) (F : Nat → Int) : BsR (⟨wr.heap.size, T, n, F⟩ :: E) (wr.heap.size + 1) w (wr.alloc (.cells (arrv n F) T)) := by
  have k := s.alloc (.cells (arrv n F) T)
  have hl := s.lim
  have hle := s.le
  refine ⟨k.below, fun e he => ?_, by omega, by simp⟩
  rcases List.mem_cons.1 he with rfl | he
  · exact ⟨Blk.new _ _ _ _, by simp only; omega, by simp⟩
  · have := k.ex e he
    exact ⟨this.1, this.2.1, by omega⟩
theorem BsR.e0 {b T n : Nat} {F : Nat → Int} (s : BsR (⟨b, T, n, F⟩ :: E) top w wr) : Blk wr b T n F := (s.ex _ (.head _)).1
theorem BsR.tail {a : Lx} (s : BsR (a :: E) top w wr) : BsR E top w wr := ⟨s.below, fun e he => s.ex e (.tail _ he), s.lim, s.le⟩
theorem BsR.e1 {a : Lx} {b T n : Nat} {F : Nat → Int} (s : BsR (a :: ⟨b, T, n, F⟩ :: E) top w wr) : Blk wr b T n F := s.tail.e0
theorem BsR.e2 {a a2 : Lx} {b T n : Nat} {F : Nat → Int} (s : BsR (a :: a2 :: ⟨b, T, n, F⟩ :: E) top w wr) : Blk wr b T n F := s.tail.e1
theorem BsR.row {b T n : Nat} {F : Nat → Int} (s : BsR (⟨b, T, n, F⟩ :: E) top w wr) (hn : ∀ e, e ∈ E → e.b ≠ b) (G : Nat → Int) : BsR (⟨b, T, n, G⟩ :: E) top w (wr.setRow b (arrv n G)) := by
  have h0 := s.ex _ (.head _)
  refine ⟨s.below.trans (below_row (Below.refl _ _) h0.2.1 _), fun e he => ?_, s.lim, by rw [setRow_size]; exact s.le⟩
  rcases List.mem_cons.1 he with rfl | he
  · exact ⟨h0.1.setRow G, h0.2⟩
  · have := s.ex e (.tail _ he)
    exact ⟨this.1.setRow_other _ (hn e he), this.2⟩
theorem BsR.sub {E' : List Lx} (s : BsR E top w wr) (hs : ∀ e, e ∈ E' → e ∈ E) : BsR E' top w wr := ⟨s.below, fun e he => s.ex e (hs e he), s.lim, s.le⟩
end
end Go.Proofs.Ytgpnopiinogkmaa
/- quat.Conj. -/
namespace Go.Proofs.Ytgpnopiinogkmaa
open Go.RowKit
open Go
set_option maxRecDepth 100000
def conjV (A : Nat → Int) : Nat → Int := fun i => if i = 0 then satV (A 0) else -satV (A i)
theorem BsR.upd {E : List Lx} {top : Nat} {w wr w' : World} {c : Addr} {h : Bool} (s : BsR E top w wr) (u : Upd c h wr w') (hc : top ≤ c.block) : BsR E top w w' :=
  s.low ⟨u.os, u.tape, u.output, u.size, fun k hk => u.block (by have := s.le; omega) (by omega)⟩ (Nat.le_trans s.le u.size)
set_option maxHeartbeats 4000000 in
theorem conj_any (A : Nat → Int) (w : World) : Calls Try.prog 9 #[.agg (arrv 4 A)] w fun e w' => e = .returned (.agg (arrv 4 (conjV A))) ∧ Below w.heap.size w w' := by
  have L0 := Lib.hid (show BsR [⟨w.heap.size, 27, 4, A⟩, ⟨w.heap.size + 1, 27, 4, fun _ => 0⟩] (w.heap.size + 1 + 1) w ((w.alloc (.cells (arrv 4 A) 27)).alloc (.cells #[.int .i64 0, .int .i64 0, .int .i64 0, .int .i64 0] 27)) by
    rw [zq4]
    have := ((bs_nil w).lay 27 4 A).lay 27 4 (fun _ => 0)
    simp at this
    exact this.sub (by simp))
  go_enter Try.func9, Try.ntmps9
  go_upto_region 1 with fail
  generalize (w.alloc (.cells (arrv 4 A) 27)).alloc (.cells #[.int .i64 0, .int .i64 0, .int .i64 0, .int .i64 0] 27) = W0 at *
  have L1 := Lib.hid (L0.out.alloc (.cells #[.bool false] 25))
  have F1 := Lib.hid (Flg.new W0 false)
  have hz := L0.out.le
  clear L0
  have P0 := L1.out.e0
  refine wp_region_lit ?_
  refine wpList_val (v := ?_) rfl ?_ ?_
  rotate_left
  · (go_simp; (try (first | with_reducible rfl | (constructor <;> with_reducible rfl))))
  (try simp only [Act.put, nA, nB, nC])
  refine wpList_act (v := ?_) (w' := ?_) rfl ?_ ?_
  rotate_left 2
  · (go_simp; (try (first | with_reducible rfl | (constructor <;> with_reducible rfl))))
  (try simp only [Act.put, nA, nB, nC])
  refine wpList_val (v := ?_) rfl ?_ ?_
  rotate_left
  · refine Eq.trans (run_load_row 27 (.tmp 1) (by rfl) (w.heap.size) (by rfl) _ _ _ _ (P0) Try.underlying27 rfl (iqt.trans (by rw [arrv_size]))) ?_; with_reducible rfl
  (try simp only [Act.put, nA, nB, nC])
  refine wpList_step (fun K hK => ?_)
  go_simp
  (refine (qsat_any ⟨W0.heap.size, 0, none⟩ false A _ F1.out.cell F1.out.free).mono ?_); rintro e w1 ⟨rfl, hu⟩; have L2 := Lib.hid (L1.out.upd hu hz); clear hu L1 F1 P0; have P1 := L2.out.e0
  (try dsimp only)
  (try simp only [Act.put, nA, nB, nC])
  refine hK _ _ ?_
  clear hK K
  refine wpList_done (w' := ?_) rfl ?_ ?_
  rotate_left
  · refine Eq.trans (run_store_row 27 (.tmp 1) (.tmp 6) (by rfl) (w.heap.size) (by rfl) (by rfl) (P1) (iqt.trans rfl)) ?_; with_reducible rfl
  (try simp only [Act.put, nA, nB, nC])
  refine wpList_nil ?_
  have L3 := Lib.hid (L2.out.row (by simp) (satA A))
  generalize w1.setRow w.heap.size (arrv 4 (satA A)) = W1 at *
  clear L2 P1
  obtain ⟨a, ha⟩ : ∃ x, satV (A 0) = x := ⟨_, rfl⟩
  obtain ⟨b, hb⟩ : ∃ x, satV (A 1) = x := ⟨_, rfl⟩
  obtain ⟨c, hc⟩ : ∃ x, satV (A 2) = x := ⟨_, rfl⟩
  obtain ⟨d, hd⟩ : ∃ x, satV (A 3) = x := ⟨_, rfl⟩
  have HE := Lib.hid (show arrv 4 (q4 a (-b) (-c) (-d)) = arrv 4 (conjV A) from arrv_congr fun i hi => by
    unfold q4 conjV
    rcases (show i = 0 ∨ i = 1 ∨ i = 2 ∨ i = 3 by omega) with rfl | rfl | rfl | rfl <;> simp [ha, hb, hc, hd])
  have b0 := (hb ▸ satV_bd (A 1) : -1152921504606846976 ≤ b ∧ b ≤ 1152921504606846976).1
  have b1 := (hb ▸ satV_bd (A 1) : -1152921504606846976 ≤ b ∧ b ≤ 1152921504606846976).2
  have c0 := (hc ▸ satV_bd (A 2) : -1152921504606846976 ≤ c ∧ c ≤ 1152921504606846976).1
  have c1 := (hc ▸ satV_bd (A 2) : -1152921504606846976 ≤ c ∧ c ≤ 1152921504606846976).2
  have d0 := (hd ▸ satV_bd (A 3) : -1152921504606846976 ≤ d ∧ d ≤ 1152921504606846976).1
  have d1 := (hd ▸ satV_bd (A 3) : -1152921504606846976 ≤ d ∧ d ≤ 1152921504606846976).2
  have r0 : W1.cell? ⟨w.heap.size, 0, none⟩ = some (.int .i64 a) := by rw [← ha]; exact L3.out.e0.cell (i := 0) (by decide)
  have r1 : W1.cell? ⟨w.heap.size, 1, none⟩ = some (.int .i64 b) := by rw [← hb]; exact L3.out.e0.cell (i := 1) (by decide)
  have r2 : W1.cell? ⟨w.heap.size, 2, none⟩ = some (.int .i64 c) := by rw [← hc]; exact L3.out.e0.cell (i := 2) (by decide)
  have r3 : W1.cell? ⟨w.heap.size, 3, none⟩ = some (.int .i64 d) := by rw [← hd]; exact L3.out.e0.cell (i := 3) (by decide)
  have NB := Lib.hid (And.intro (IntWalk.i64_in (-b) (by omega)) (And.intro (IntWalk.i64_in (-c) (by omega)) (IntWalk.i64_in (-d) (by omega))))
  clear ha hb hc hd
  go_upto_region 2 with fail
  refine wp_region_lit ?_
  refine wpList_val (v := ?_) rfl ?_ ?_
  rotate_left
  · (go_simp; (try (first | with_reducible rfl | (constructor <;> with_reducible rfl))))
  (try simp only [Act.put, nA, nB, nC])
  refine wpList_val (v := ?_) rfl ?_ ?_
  rotate_left
  · (go_simp; (try (first | with_reducible rfl | (constructor <;> with_reducible rfl))))
  (try simp only [Act.put, nA, nB, nC])
  refine wpList_val (v := ?_) rfl ?_ ?_
  rotate_left
  · (go_simp; (try (first | with_reducible rfl | (constructor <;> with_reducible rfl))))
  (try simp only [Act.put, nA, nB, nC])
  refine wpList_val (v := ?_) rfl ?_ ?_
  rotate_left
  · (go_simp; (try (first | with_reducible rfl | (constructor <;> with_reducible rfl))))
  (try simp only [Act.put, nA, nB, nC])
  refine wpList_val (v := ?_) rfl ?_ ?_
  rotate_left
  · (go_simp; rw [NB.out.1])
  (try simp only [Act.put, nA, nB, nC])
  refine wpList_val (v := ?_) rfl ?_ ?_
  rotate_left
  · (go_simp; (try (first | with_reducible rfl | (constructor <;> with_reducible rfl))))
  (try simp only [Act.put, nA, nB, nC])
  refine wpList_val (v := ?_) rfl ?_ ?_
  rotate_left
  · (go_simp; (try (first | with_reducible rfl | (constructor <;> with_reducible rfl))))
  (try simp only [Act.put, nA, nB, nC])
  refine wpList_val (v := ?_) rfl ?_ ?_
  rotate_left
  · (go_simp; rw [NB.out.2.1])
  (try simp only [Act.put, nA, nB, nC])
  refine wpList_val (v := ?_) rfl ?_ ?_
  rotate_left
  · (go_simp; (try (first | with_reducible rfl | (constructor <;> with_reducible rfl))))
  (try simp only [Act.put, nA, nB, nC])
  refine wpList_val (v := ?_) rfl ?_ ?_
  rotate_left
  · (go_simp; (try (first | with_reducible rfl | (constructor <;> with_reducible rfl))))
  (try simp only [Act.put, nA, nB, nC])
  refine wpList_val (v := ?_) rfl ?_ ?_
  rotate_left
  · (go_simp; rw [NB.out.2.2])
  (try simp only [Act.put, nA, nB, nC])
  refine wpList_val (v := ?_) rfl ?_ ?_
  rotate_left
  · (refine Eq.trans (run_build_q4 (.tmp 8) (.tmp 11) (.tmp 14) (.tmp 17) (by rfl) (by rfl) (by rfl) (by rfl) (by rfl)) ?_; with_reducible rfl)
  (try simp only [Act.put, nA, nB, nC])
  refine wpList_done (w' := ?_) rfl ?_ ?_
  rotate_left
  · (refine Eq.trans (run_store_row 27 (.tmp 2) (.tmp 18) (by rfl) (w.heap.size + 1) (by rfl) (by rfl) L3.out.e1 (iqt.trans rfl)) ?_; with_reducible rfl)
  (try simp only [Act.put, nA, nB, nC])
  refine wpList_nil ?_
  have L4 := Lib.hid ((L3.out.sub (E' := [⟨w.heap.size + 1, 27, 4, fun _ => 0⟩]) (by simp)).row (by simp) (q4 a (-b) (-c) (-d)))
  generalize W1.setRow (w.heap.size + 1) (arrv 4 (q4 a (-b) (-c) (-d))) = W2 at *
  go_wp2_with fail
  refine bodyPost_ret (results_cell_row Try.results9 _ _ (w.heap.size + 1) 27 (arrv 4 _) (0, 0) _ rfl L4.out.e0 Try.underlying27 rfl (iqt.trans (by rw [arrv_size]))) rfl ⟨by rw [HE.out], L4.out.below⟩
end Go.Proofs.Ytgpnopiinogkmaa
/- A body that turns about its upright axis: the plain law. No program. -/
namespace Go.Proofs.Ytgpnopiinogkmaa
set_option maxRecDepth 100000
theorem wrp_mod (x : Int) : ∃ j : Int, wrpV x = x - 6746518852 * j := by
  have e := Int.mul_tdiv_add_tmod x 6746518852
  unfold wrpV
  split
  · exact ⟨x.tdiv 6746518852 + 1, by omega⟩
  · split
    · exact ⟨x.tdiv 6746518852 - 1, by omega⟩
    · exact ⟨x.tdiv 6746518852, by omega⟩
theorem wrp_add {x a : Int} (ha : -67108864 ≤ a ∧ a ≤ 67108864) : wrpV (x + a) = wrpV x + a ∨ wrpV (x + a) = wrpV x + a - 6746518852 ∨ wrpV (x + a) = wrpV x + a + 6746518852 := by
  obtain ⟨i, hi⟩ := wrp_mod x
  obtain ⟨j, hj⟩ := wrp_mod (x + a)
  have b1 := wrpV_bd x
  have b2 := wrpV_bd (x + a)
  omega
/-- What a law keeps of the estimate behind some steps. -/
structure TuI (B : Int) (x : Int) (S : Nat → Int) : Prop where
  z1 : S 1 = 0
  z2 : S 2 = 0
  u : UnitQ S
  g : ∀ i, i < 3 → S (10 + i) = 0
  d : -(B * 1073741824 ^ 13) ≤ anC (fyM x) * S 3 - anS (fyM x) * S 0 ∧ anC (fyM x) * S 3 - anS (fyM x) * S 0 ≤ B * 1073741824 ^ 13
theorem fyM_bd (x : Int) : (-1 ≤ 2 * fyM x - wrpV x ∧ 2 * fyM x - wrpV x ≤ 1) ∧ -1686629713 ≤ fyM x ∧ fyM x ≤ 1686629713 := by
  have w := wrpV_bd x
  exact half_bd (a := wrpV x) ⟨by omega, by omega⟩
theorem neg_mid {a B : Int} (h : -B ≤ a ∧ a ≤ B) : -B ≤ -a ∧ -a ≤ B := by omega
/-- A step, whatever the whole turns. -/
theorem tu_wrap {x a B : Int} {S E R : Nat → Int} (ha : -67108864 ≤ a ∧ a ≤ 67108864)
    (c0 : NrK 92 (E 0) (anC (tuH a))) (c3 : NrK 92 (E 3) (anS (tuH a))) (nE : E 0 * E 0 + E 3 * E 3 ≤ 1152921508901814272) (nR : R 0 * R 0 + R 3 * R 3 ≤ 1152921508901814272)
    (r0 : -88046829568 ≤ 1073741824 * R 0 - (S 0 * E 0 - S 3 * E 3) ∧ 1073741824 * R 0 - (S 0 * E 0 - S 3 * E 3) ≤ 88046829568)
    (r3 : -88046829568 ≤ 1073741824 * R 3 - (S 0 * E 3 + S 3 * E 0) ∧ 1073741824 * R 3 - (S 0 * E 3 + S 3 * E 0) ≤ 88046829568)
    (hB : 0 ≤ B ∧ B ≤ 100000) (hD : -(B * 1073741824 ^ 13) ≤ anC (fyM x) * S 3 - anS (fyM x) * S 0 ∧ anC (fyM x) * S 3 - anS (fyM x) * S 0 ≤ B * 1073741824 ^ 13) :
    -((B + 330) * 1073741824 ^ 13) ≤ anC (fyM (x + a)) * R 3 - anS (fyM (x + a)) * R 0 ∧ anC (fyM (x + a)) * R 3 - anS (fyM (x + a)) * R 0 ≤ (B + 330) * 1073741824 ^ 13 := by
  have h1 := fyM_bd x
  have h2 := fyM_bd (x + a)
  have hy := tuH_bd ha
  have wr := wrp_add (x := x) ha
  obtain ⟨h, hh⟩ : ∃ h, fyM x = h := ⟨_, rfl⟩
  obtain ⟨k, hk⟩ : ∃ h, fyM (x + a) = h := ⟨_, rfl⟩
  obtain ⟨y, hy2⟩ : ∃ h, tuH a = h := ⟨_, rfl⟩
  rw [hh] at h1 hD
  rw [hk] at h2 ⊢
  rw [hy2] at hy c0 c3
  clear hh hk hy2
  generalize wrpV x = w at *
  generalize wrpV (x + a) = v at *
  rcases wr with wr | wr | wr
  · exact tu_step (h := h) (y := y) (d := k - h - y) (h2 := k) h1.2 hy.2 (by clear hD c0 c3 nE nR r0 r3; omega) (by omega) c0 c3 nE nR r0 r3 hB hD
  · have g := tu_step (h := h) (y := y) (d := k + 3373259426 - h - y) (h2 := k + 3373259426) h1.2 hy.2 (by clear hD c0 c3 nE nR r0 r3; omega) (by omega) c0 c3 nE nR r0 r3 hB hD
    have f := an_half (h := k + 3373259426) (by clear hD c0 c3 nE nR r0 r3 g; omega) (by clear hD c0 c3 nE nR r0 r3 g; omega)
    rw [show k + 3373259426 - 3373259426 = k by omega] at f
    rw [f.1, f.2, Int.neg_mul, Int.neg_mul]
    have := neg_mid g
    rwa [show -(anC (k + 3373259426) * R 3 - anS (k + 3373259426) * R 0) = -(anC (k + 3373259426) * R 3) - -(anS (k + 3373259426) * R 0) by omega] at this
  · have g := tu_step (h := h) (y := y) (d := k - 3373259426 - h - y) (h2 := k - 3373259426) h1.2 hy.2 (by clear hD c0 c3 nE nR r0 r3; omega) (by omega) c0 c3 nE nR r0 r3 hB hD
    have f := an_half (h := -(k - 3373259426)) (by clear hD c0 c3 nE nR r0 r3 g; omega) (by clear hD c0 c3 nE nR r0 r3 g; omega)
    rw [show -(k - 3373259426) - 3373259426 = -k by omega, anC_neg, anC_neg, anS_neg, anS_neg] at f
    have f2 : anS k = -anS (k - 3373259426) := by omega
    rw [f.1, f2, Int.neg_mul, Int.neg_mul]
    have := neg_mid g
    rwa [show -(anC (k - 3373259426) * R 3 - anS (k - 3373259426) * R 0) = -(anC (k - 3373259426) * R 3) - -(anS (k - 3373259426) * R 0) by omega] at this
theorem unit_up {Q : Nat → Int} (h1 : Q 1 = 0) (h2 : Q 2 = 0) (u : UnitQ Q) : Q 0 * Q 0 + Q 3 * Q 3 ≤ 1152921508901814272 ∧ Q 3 * Q 3 + Q 0 * Q 0 ≤ 1073741826 * 1073741826 := by
  have n := u.2
  rw [h1, h2] at n
  omega
theorem keep_q {S : Nat → Int} (u : UnitQ S) {i : Nat} (hi : i < 4) : keepF S i = S i := by
  unfold keepF clmF keepI
  rw [if_pos hi, if_pos ((unitB_iff S).2 u)]
theorem keep_0 {S : Nat → Int} {i : Nat} (hi : 4 ≤ i) (h : S i = 0) : keepF S i = 0 := by
  unfold keepF clmF
  rw [if_neg (by omega)]
  have e : keepI S i = 0 := by
    unfold keepI
    split
    · exact h
    · unfold turnd; rw [if_neg (by omega)]; exact h
  rw [e]
  have := boxF_bd i
  exact (clampV_id (by omega)).1
theorem sub_z (x : Int) : subV x 0 = satV x := by
  unfold subV
  rw [show satV 0 = 0 by decide, Int.sub_zero]
  exact satV_id (satV_bd x).1 (satV_bd x).2
/-- The step of the law. -/
theorem tu_next {B x a : Int} {S I : Nat → Int} (ha : -67108864 ≤ a ∧ a ≤ 67108864) (i2 : I 2 = 0) (i3 : I 3 = 0) (i4 : I 4 = a) (hB : 0 ≤ B ∧ B ≤ 100000) (s : TuI B x S) : TuI (B + 330) (x + a) (stepN S I) := by
  obtain ⟨K, hK⟩ : ∃ K, keepF S = K := ⟨_, rfl⟩
  have kq : ∀ i, i < 4 → K i = S i := fun i hi => by rw [← hK]; exact keep_q s.u hi
  have k0 : ∀ i, i < 3 → K (10 + i) = 0 := fun i hi => by rw [← hK]; exact keep_0 (by omega) (s.g i hi)
  obtain ⟨dt, hdt⟩ : ∃ t, secV (I 1) = t := ⟨_, rfl⟩
  have va : ∀ i, i < 3 → spA K I 10 2 dt i = satV (I (2 + i)) := fun i hi => by
    unfold spA partF
    rw [if_pos (by omega), show ((10 : Nat) : Int) + (i : Int) = ((10 + i : Nat) : Int) by omega, Int.toNat_natCast, k0 i hi, ml_zero2, sub_z]
  obtain ⟨v, hv⟩ : ∃ v, spA K I 10 2 dt = v := ⟨_, rfl⟩
  rw [hv] at va
  have v0 : v 0 = 0 := by rw [va 0 (by decide), i2]; decide
  have v1 : v 1 = 0 := by rw [va 1 (by decide), i3]; decide
  have v2 : v 2 = a := by rw [va 2 (by decide), i4]; exact satV_id (by omega) (by omega)
  obtain ⟨e0, e3, e1, e2, eu⟩ := ex_nr v0 v1 v2 ha
  have f7 := (spF_at K I).2.2.1
  rw [hdt, hv] at f7
  obtain ⟨E, hE⟩ : ∃ E, exV v = E := ⟨_, rfl⟩
  rw [hE] at e0 e3 e1 e2 eu f7
  have qm := (ur_qm (A := K) (A' := S) (B := fun i => spF K I (7 + i)) (B' := E) kq f7).1
  have un := (ur_uni (A := qmV K (fun i => spF K I (7 + i))) (B := qmV S E) fun i _ => qm i).1
  obtain ⟨m1, m2, mu, m0, m3⟩ := up_mul s.z1 s.z2 s.u e1 e2 eu
  obtain ⟨R, hR⟩ : ∃ R, uniV (qmV S E) = R := ⟨_, rfl⟩
  rw [hR] at un m1 m2 mu m0 m3
  have st : ∀ i, i < 4 → stS K (spF K I) i = R i := fun i hi => by
    unfold stS withF
    rw [if_neg (by omega), if_neg (by omega), if_pos (by omega), show ((i : Int) - 0).toNat = i by omega]
    exact un i hi
  have su : UnitQ (stS K (spF K I)) := unitQ_congr (fun i hi => (st i hi).symm) mu
  have fin : ∀ i, i < 4 → stepN S I i = R i := fun i hi => by
    unfold stepN
    rw [hK, keep_q su hi, st i hi]
  have hi10 : ∀ i, i < 3 → stepN S I (10 + i) = 0 := fun i hi => by
    unfold stepN
    rw [hK]
    refine keep_0 (by omega) ?_
    unfold stS withF
    rw [if_neg (by omega), if_neg (by omega), if_neg (by omega)]
    exact k0 i hi
  have hD := tu_wrap (R := R) ha e0 e3 (unit_up e1 e2 eu).1 (unit_up m1 m2 mu).1 m0 m3 hB s.d
  refine ⟨by rw [fin 1 (by decide)]; exact m1, by rw [fin 2 (by decide)]; exact m2, unitQ_congr (fun i hi => (fin i hi).symm) mu, hi10, ?_⟩
  rw [fin 0 (by decide), fin 3 (by decide)]
  exact hD
theorem tu_start {x : Int} {S : Nat → Int} (h : ∀ i, i < 4 → S i = fyV x i) (h0 : ∀ i, 4 ≤ i → S i = 0) : TuI 132 x S := by
  obtain ⟨_, f1, f2, fu⟩ := fy_calm x
  obtain ⟨n0, n3⟩ := fy_nr x
  have hb := fyM_bd x
  have nT := an_norm (h := fyM x) (by omega)
  refine ⟨by rw [h 1 (by decide)]; exact f1, by rw [h 2 (by decide)]; exact f2, unitQ_congr (fun i hi => (h i hi).symm) fu, fun i hi => h0 _ (by omega), ?_⟩
  rw [h 0 (by decide), h 3 (by decide)]
  unfold NrK at n0 n3
  clear hb
  generalize anC (fyM x) = C at *
  generalize anS (fyM x) = T at *
  generalize fyV x 0 = c at *
  generalize fyV x 3 = s at *
  obtain ⟨p, hp⟩ : ∃ p, 1073741824 ^ 12 * c - C = p := ⟨_, rfl⟩
  obtain ⟨q, hq⟩ : ∃ p, 1073741824 ^ 12 * s - T = p := ⟨_, rfl⟩
  rw [hp] at n0
  rw [hq] at n3
  have k := cross_bd2 (a := C) (b := T) (c := q) (d := p) (M := 1073741825 * 1073741824 ^ 12) (m := 131 * 1073741824 ^ 12) (by decide) (by decide) (by
    have e : (1073741825 * 1073741824 ^ 12 : Int) * (1073741825 * 1073741824 ^ 12) ≥ 1073741824 ^ 26 + 1073741824 ^ 25 := by decide
    omega) (sq_two n3 n0 (by decide))
  have id : 1073741824 ^ 12 * (C * s - T * c) = C * q - T * p := by
    have e1 : 1073741824 ^ 12 * s = T + q := by omega
    have e2 : 1073741824 ^ 12 * c = C + p := by omega
    have f : 1073741824 ^ 12 * (C * s - T * c) = C * (1073741824 ^ 12 * s) - T * (1073741824 ^ 12 * c) := by grind
    rw [f, e1, e2]; grind
  generalize C * s - T * c = D at *
  generalize C * q - T * p = Z at *
  clear nT hp hq n0 n3
  omega
theorem tu_end {B x : Int} {S : Nat → Int} (s : TuI B x S) (hB : 0 ≤ B ∧ B ≤ 14000) : qmV (conjV (fyV x)) S 1 = 0 ∧ -16384 ≤ qmV (conjV (fyV x)) S 3 ∧ qmV (conjV (fyV x)) S 3 ≤ 16384 := by
  obtain ⟨_, f1, f2, fu⟩ := fy_calm x
  obtain ⟨n0, n3⟩ := fy_nr x
  have b := fu.1
  have v : ∀ i, i < 4 → satV (fyV x i) = fyV x i := fun i hi => satV_id (by have := b i hi; omega) (by have := b i hi; omega)
  have w0 : conjV (fyV x) 0 = fyV x 0 := by unfold conjV; rw [if_pos rfl]; exact v 0 (by decide)
  have w1 : conjV (fyV x) 1 = 0 := by unfold conjV; rw [if_neg (by decide), v 1 (by decide), f1]; rfl
  have w2 : conjV (fyV x) 2 = 0 := by unfold conjV; rw [if_neg (by decide), v 2 (by decide), f2]; rfl
  have w3 : conjV (fyV x) 3 = -fyV x 3 := by unfold conjV; rw [if_neg (by decide), v 3 (by decide)]
  have wu : UnitQ (conjV (fyV x)) := by
    have n := fu.2
    have b0 := b 0 (by decide)
    have b3 := b 3 (by decide)
    rw [f1, f2] at n
    refine ⟨fun i hi => ?_, ?_⟩
    · rcases (show i = 0 ∨ i = 1 ∨ i = 2 ∨ i = 3 by omega) with rfl | rfl | rfl | rfl
      · rw [w0]; exact b0
      · rw [w1]; decide
      · rw [w2]; decide
      · rw [w3]; omega
    · rw [w0, w1, w2, w3, Int.neg_mul_neg]
      exact n
  obtain ⟨q1, _, _, q3⟩ := up_qm w1 w2 wu s.z1 s.z2 s.u
  refine ⟨q1, ?_⟩
  have d := s.d
  have nS := (unit_up s.z1 s.z2 s.u).2
  rw [w0, w3] at q3
  unfold NrK at n0 n3
  clear wu w0 w1 w2 w3 v b fu f1 f2 q1
  generalize anC (fyM x) = C at *
  generalize anS (fyM x) = T at *
  generalize fyV x 0 = c at *
  generalize fyV x 3 = t at *
  generalize S 0 = s0 at *
  generalize S 3 = s3 at *
  generalize qmV (conjV (fyV x)) S 3 = r at *
  obtain ⟨p, hp⟩ : ∃ p, 1073741824 ^ 12 * c - C = p := ⟨_, rfl⟩
  obtain ⟨q, hq⟩ : ∃ p, 1073741824 ^ 12 * t - T = p := ⟨_, rfl⟩
  rw [hp] at n0
  rw [hq] at n3
  have k := cross_bd2 (a := p) (b := q) (c := s3) (d := s0) (M := 131 * 1073741824 ^ 12) (m := 1073741826) (by decide) (by decide) (sq_two n0 n3 (by decide)) nS
  have id : 1073741824 ^ 12 * (c * s3 + -t * s0) = (C * s3 - T * s0) + (p * s3 - q * s0) := by
    have e1 : 1073741824 ^ 12 * c = C + p := by omega
    have e2 : 1073741824 ^ 12 * t = T + q := by omega
    have f : 1073741824 ^ 12 * (c * s3 + -t * s0) = (1073741824 ^ 12 * c) * s3 - (1073741824 ^ 12 * t) * s0 := by grind
    rw [f, e1, e2]; grind
  generalize c * s3 + -t * s0 = A at *
  generalize C * s3 - T * s0 = D at *
  generalize p * s3 - q * s0 = Z at *
  clear nS hp hq n0 n3
  omega
end Go.Proofs.Ytgpnopiinogkmaa
/- Arguments that are arrays of int64 (or structs of such): opened as numbers; a slice of int64 too. Of no one program. -/
namespace Go.Proofs.Ytgpnopiinogkmaa
open Go.RowKit Go.ChangeShapes
section
variable {H : Type} {enc : TypeId × Value → H} {P : Program} {w : World} {base : Nat} {spare : Nat → Bool} {held : Bool}
end
end Go.Proofs.Ytgpnopiinogkmaa
/- The join of a law: arguments that read before the call read behind it, if nothing that was there has turned. -/
namespace Go.Proofs.Ytgpnopiinogkmaa
open Go.ChangeShapes Go.WideShapes Go.ChangeAt Go.RowKit
theorem trodAll_stays {H : Type} {enc : TypeId × Value → H} {P : Program} (hl : laidOutB P = true) {W W' : World} (hb : Below W.heap.size W W') {sp : Nat → Bool} : ∀ {ts : List TypeId} {vs : List Value} {ds : List (DataW H)} {p : List MemPlace},
    (ts.all fun t => P.readableRec t && decide (t < P.types.size)) = true → DataW.TrodAll enc P W 0 (fun _ => true) true ts vs ds p → (∀ x ∈ p, x.block < W.heap.size) → (∀ x ∈ p, sp x.block = true) → DataW.TrodAll enc P W' 0 sp true ts vs ds p
  | [], [], [], _, _, h, _, _ => h
  | t :: ts, v :: vs, d :: ds, p, ht, h, hlt, hsp => by
    obtain ⟨q, r, h1, h2, rfl⟩ := h
    rw [List.all_cons, Bool.and_eq_true, Bool.and_eq_true, decide_eq_true_eq] at ht
    exact ⟨q, r, WideElems.Trod_stays hl ht.1.1 ht.1.2 h1 (fun x hx => hb.same (hlt x (List.mem_append_left _ hx))) (fun x hx => hsp x (List.mem_append_left _ hx)),
      trodAll_stays hl hb ht.2 h2 (fun x hx => hlt x (List.mem_append_right _ hx)) (fun x hx => hsp x (List.mem_append_right _ hx)), rfl⟩
  | [], _ :: _, _, _, _, h, _, _ => by cases ‹List (DataW H)› <;> exact h.elim
  | [], [], _ :: _, _, _, h, _, _ => h.elim
  | _ :: _, [], _, _, _, h, _, _ => by cases ‹List (DataW H)› <;> exact h.elim
  | _ :: _, _ :: _, [], _, _, h, _, _ => h.elim
/-- What a law owes behind the call: it answers true, and nothing that was there has turned. -/
theorem law_post {H : Type} {enc : TypeId × Value → H} {P : Program} {f : Func} {s : ChangeSpec} {apart fresh handsOn again : Bool} {W W' : World} {args : Array Value} {ds gs : List (DataW H)} {before : List MemPlace} {tb : TypeId}
    (hW : DataW.Whole enc P f.params.toList s.vars apart W args.toList ds gs before) (hv : s.vars = []) (hfn : s.fn H ds = { results := [.lit (.bool true)], args := ds })
    (hu : P.underlying tb = some .bool) (hr : f.resultTypes = #[tb]) (hl : laidOutB P = true) (hts : (f.params.toList.all fun t => P.readableRec t && decide (t < P.types.size)) = true) (hb : Below W.heap.size W W') :
    s.post enc P f apart fresh handsOn again W args (.bool true) W' := by
  have hlt : ∀ x ∈ before, x.block < W.heap.size := fun x hx => hW.lt x hx
  have hW0 := hW
  obtain ⟨p, q, hA, hV, rfl, hfz, hnd⟩ := hW
  rw [hv] at hV
  obtain ⟨rfl, rfl⟩ := trodVars_none hV
  rw [List.append_nil] at hlt
  have hargs : ∀ sp : Nat → Bool, (∀ x ∈ p, sp x.block = true) → DataW.TrodAll enc P W' 0 sp true f.params.toList args.toList ds p := fun sp hsp => trodAll_stays hl hb hts hA hlt hsp
  have hvars : ∀ sp : Nat → Bool, DataW.TrodVars enc P W' sp s.vars ([] : List (DataW H)) [] := fun sp => by rw [hv]; exact rfl
  have hres : ∀ (b : Nat) (sp : Nat → Bool) (hd : Bool), DataW.TrodAll enc P W' b sp hd f.resultTypes.toList ((Value.bool true).resultList f.resultTypes.size) [.lit (.bool true)] [] := fun b sp hd => by
    rw [hr]; exact trodAll_mk1 (shut_bool hu _)
  have hold : ∀ x ∈ p, (fun b => decide (b < W.heap.size)) x.block = true := fun x hx => by simpa using hlt x hx
  have hfn' : s.fn H (ds ++ []) = { results := [.lit (.bool true)], args := ds } := by rw [List.append_nil]; exact hfn
  refine ⟨ds, [], p ++ [], [], p, [], hW0, ?_, ?_, ?_, World.keptBut_mono (fun x hx => ⟨hx, ?_⟩) (hb.frame (· ∈ p ++ [])), fun _ => ?_⟩
  · rw [hfn']; exact hres _ _ _
  · rw [hfn']; exact hargs _ hold
  · rw [hfn']; exact hvars _
  · rw [List.append_nil] at hx; exact Or.inr (.inl hx)
  · refine ⟨ok_one hr rfl (okWide_bool_mk hu _), _, _, ([] ++ p) ++ [], ⟨[] ++ p, [], trodAll_append (hargs _ (fun _ _ => rfl)) (hres _ _ _), hvars _, rfl, ?_, ?_⟩, ?_⟩
    · intro b off hx
      have hin : MemPlace.cell b off ∈ p := by simpa using hx
      rw [hb.frozen (p := ⟨b, off, none⟩) (hlt _ hin)]
      exact hfz b off (by simpa using hin)
    · intro ha
      simpa using hnd ha
    · intro x hx _
      simpa using hx
section
variable {H : Type} {enc : TypeId × Value → H} {w : World} {base : Nat} {spare : Nat → Bool} {held : Bool}
theorem own_knob : ownKnob Try.prog.godebug = none := by kernel_rfl
theorem laid_out : laidOutB Try.prog = true := by kernel_rfl
end
end Go.Proofs.Ytgpnopiinogkmaa
