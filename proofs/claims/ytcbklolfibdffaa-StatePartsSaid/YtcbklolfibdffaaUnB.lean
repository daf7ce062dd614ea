/- Plain numbers: is a quaternion a Unit's? No program. -/
import Derived.Test.YtcbklolfibdffaaUnitL
namespace Go.Proofs.Ytcbklolfibdffaa
def sqA (A : Nat → Int) : Nat → Int := fun i => A i * A i
def sum4 (A : Nat → Int) : Int := A 0 * A 0 + A 1 * A 1 + A 2 * A 2 + A 3 * A 3
def inQ (a : Int) : Bool := decide (-1073741840 ≤ a) && decide (a ≤ 1073741840)
def inQs (A : Nat → Int) : Nat → Bool | 0 => true | n + 1 => inQs A n && inQ (A n)
def unitB (A : Nat → Int) : Bool := inQs A 4 && (decide (-4294967296 ≤ sum4 A - 1152921504606846976) && decide (sum4 A - 1152921504606846976 ≤ 4294967296))
theorem inQs_iff {A : Nat → Int} : ∀ {n : Nat}, inQs A n = true ↔ ∀ i, i < n → -1073741840 ≤ A i ∧ A i ≤ 1073741840
  | 0 => by simp [inQs]
  | n + 1 => by
    simp only [inQs, Bool.and_eq_true, inQs_iff, inQ, decide_eq_true_eq]
    constructor
    · rintro ⟨h, h1⟩ i hi
      by_cases e : i = n
      · subst e; exact h1
      · exact h i (by omega)
    · intro h
      exact ⟨fun i hi => h i (by omega), h n (by omega)⟩
theorem unitB_iff (A : Nat → Int) : unitB A = true ↔ UnitQ A := by
  unfold unitB UnitQ sum4
  rw [Bool.and_eq_true, Bool.and_eq_true, inQs_iff, decide_eq_true_eq, decide_eq_true_eq]
theorem inQs_no {A : Nat → Int} {n m : Nat} (h : inQs A n = false) (hn : n ≤ m) : inQs A m = false := by
  induction m with
  | zero => have : n = 0 := by omega
            subst this; exact h
  | succ m ih =>
    by_cases e : n = m + 1
    · subst e; exact h
    · simp [inQs, ih (by omega)]
theorem unitB_no {A : Nat → Int} {n : Nat} (h : inQs A n = false) (hn : n ≤ 4) : unitB A = false := by
  unfold unitB; rw [inQs_no h hn, Bool.false_and]
theorem sq_bd {a : Int} (h : inQ a = true) : 0 ≤ a * a ∧ a * a ≤ 1152921538966585600 := by
  simp only [inQ, Bool.and_eq_true, decide_eq_true_eq] at h
  exact ⟨sq_nonneg a, sq_le (B := 1073741840) (by decide) h.1 h.2⟩
theorem sqA_bd {A : Nat → Int} (h : inQs A 4 = true) (i : Nat) (hi : i < 4) : 0 ≤ A i * A i ∧ A i * A i ≤ 1152921538966585600 := by
  have := inQs_iff.1 h i hi
  exact sq_bd (by simp only [inQ, Bool.and_eq_true, decide_eq_true_eq]; exact this)
/-- The size of a number, at most Max. -/
def absV (a : Int) : Int := if 1152921504606846976 ≤ a ∨ a ≤ -1152921504606846976 then 1152921504606846976 else if a < 0 then -a else a
theorem absV_in (a : Int) : decide (1073741840 < absV a) = !inQ a := by
  unfold absV inQ
  rw [Bool.eq_iff_iff]
  simp only [decide_eq_true_eq, Bool.not_eq_true', Bool.and_eq_false_iff, decide_eq_false_iff_not]
  split
  · omega
  · split <;> omega
end Go.Proofs.Ytcbklolfibdffaa
