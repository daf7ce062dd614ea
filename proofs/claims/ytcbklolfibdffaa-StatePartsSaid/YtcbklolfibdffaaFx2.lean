/- Contracts of package fx (1): Clamp, Sat, end, round, Mul, Sub. -/
/- Contracts of package fx (2): round, by, Mul, Div, MulDiv. -/
import Derived.Test.YtcbklolfibdffaaWadd
import Derived.Test.YtcbklolfibdffaaPlain2
namespace Go.Proofs.Ytcbklolfibdffaa
open Go.RowKit
set_option maxRecDepth 100000
theorem clampV_of {a lo hi : Int} (h0 : ¬ hi < lo) (h1 : ¬ a < lo) (h2 : ¬ hi < a) : clampV a lo hi = a ∧ clampH a lo hi = false := by
  simp [clampV, clampH, h0, h1, h2]
theorem clamp_any (c : Addr) (h : Bool) (a lo hi : Int) (w : World) (hc : w.cell? c = some (.bool h)) (hf : w.frozen? c = false) :
    Calls Try.prog 29 #[.pointer (some c), .int .i64 a, .int .i64 lo, .int .i64 hi] w fun e w' =>
      e = .returned (.int .i64 (clampV a lo hi)) ∧ w.setCell c (.bool (h || clampH a lo hi)) = w' := by
  by_cases h0 : hi < lo
  · have e1 : clampV a lo hi = lo := by simp [clampV, h0]
    have e2 : (h || clampH a lo hi) = true := by simp [clampH, h0]
    rw [e1, e2]
    clear e1 e2
    go_enter Try.func29, Try.ntmps29
    go_wp2
    go_ret
    exact ⟨rfl, rfl⟩
  by_cases h1 : a < lo
  · have e1 : clampV a lo hi = lo := by simp [clampV, h1]
    have e2 : (h || clampH a lo hi) = true := by simp [clampH, h1]
    rw [e1, e2]
    clear e1 e2
    go_enter Try.func29, Try.ntmps29
    go_wp2
    go_ret
    exact ⟨rfl, rfl⟩
  by_cases h2 : hi < a
  · have e1 : clampV a lo hi = hi := by simp [clampV, h0, h1, h2]
    have e2 : (h || clampH a lo hi) = true := by simp [clampH, h2]
    rw [e1, e2]
    clear e1 e2
    go_enter Try.func29, Try.ntmps29
    go_wp2
    go_ret
    exact ⟨rfl, rfl⟩
  · obtain ⟨e1, e2⟩ := clampV_of h0 h1 h2
    rw [e1, e2, Bool.or_false, setCell_self w c _ hc]
    clear e1 e2
    go_enter Try.func29, Try.ntmps29
    go_wp2
    go_ret
    exact ⟨rfl, rfl⟩

theorem sat_any (c : Addr) (h : Bool) (a : Int) (w : World) (hc : w.cell? c = some (.bool h)) (hf : w.frozen? c = false) :
    Calls Try.prog 31 #[.pointer (some c), .int .i64 a] w fun e w' => e = .returned (.int .i64 (satV a)) ∧ w.setCell c (.bool (h || satH a)) = w' := by
  have H := fun w hc hf => clamp_any c h a (-1152921504606846976) 1152921504606846976 w hc hf
  go_enter Try.func31, Try.ntmps31
  go_wp2_with (go_at_call 29; refine (clamp_any c h a _ _ _ hc hf).mono ?_; rintro e w' ⟨rfl, rfl⟩)
  go_ret
  exact ⟨rfl, rfl⟩

/-- The bound on a number's side. -/
def signV (neg : Bool) : Int := if neg then -1152921504606846976 else 1152921504606846976
theorem sign_any (neg : Bool) (w : World) : Calls Try.prog 45 #[.bool neg] w fun e w' => e = .returned (.int .i64 (signV neg)) ∧ w = w' := by
  cases neg
  all_goals
    go_enter Try.func45, Try.ntmps45
    go_wp2
    go_ret
    exact ⟨rfl, rfl⟩
theorem end_ok (c : Addr) (h : Bool) (a : Int) (neg : Bool) (w : World) (hc : w.cell? c = some (.bool h)) (hf : w.frozen? c = false) :
    Calls Try.prog 32 #[.pointer (some c), .int .i64 a, .bool true, .bool neg] w fun e w' => e = .returned (.int .i64 (satV a)) ∧ w.setCell c (.bool (h || satH a)) = w' := by
  go_enter Try.func32, Try.ntmps32
  go_wp2_with (go_at_call 31; refine (sat_any c h a _ hc hf).mono ?_; rintro e w' ⟨rfl, rfl⟩)
  go_ret
  exact ⟨rfl, rfl⟩
theorem end_no (c : Addr) (h : Bool) (a : Int) (neg : Bool) (w : World) (hc : w.cell? c = some (.bool h)) (hf : w.frozen? c = false) :
    Calls Try.prog 32 #[.pointer (some c), .int .i64 a, .bool false, .bool neg] w fun e w' => e = .returned (.int .i64 (signV neg)) ∧ w.setCell c (.bool true) = w' := by
  go_enter Try.func32, Try.ntmps32
  go_wp2_with (go_at_call 45; refine (sign_any neg _).mono ?_; rintro e w' ⟨rfl, rfl⟩)
  go_ret
  exact ⟨rfl, rfl⟩
/-- What was reckoned (x), clamped. -/
theorem end_any (c : Addr) (h : Bool) (x : Int) (neg : Bool) (w : World) (hc : w.cell? c = some (.bool h)) (hf : w.frozen? c = false) (hn : ¬ r64F x = true → neg = decide (x < 0)) :
    Calls Try.prog 32 #[.pointer (some c), .int .i64 (r64V x), .bool (r64F x), .bool neg] w fun e w' => e = .returned (.int .i64 (satV x)) ∧ w.setCell c (.bool (h || satH x)) = w' := by
  by_cases hx : r64F x = true
  · have : r64V x = x := by simp [r64V, hx]
    rw [hx, this]
    exact end_ok c h x neg w hc hf
  · have h2 : r64F x = false := by simpa using hx
    have h3 := hn hx
    rw [h2]
    refine (end_no c h _ neg w hc hf).mono fun e w' hh => ⟨hh.1.trans (retI ?_), ?_⟩
    · subst h3
      by_cases h0 : x < 0
      · simp [r64F] at h2; simp [signV, satV, clampV, h0]; omega
      · simp [r64F] at h2; simp [signV, satV, clampV, h0]; omega
    · rw [← hh.2]
      have : satH x = true := by simp [r64F] at h2; simp [satH, clampH]; omega
      simp [this]
end Go.Proofs.Ytcbklolfibdffaa
namespace Go.Proofs.Ytcbklolfibdffaa
open Go.RowKit
set_option maxRecDepth 100000
theorem hi_neg (A : Int) : decide (hi64 A < 0) = decide (A < 0) := by
  rw [Bool.eq_iff_iff]; simp; unfold hi64; omega
theorem rsh_neg (A : Int) (k : Nat) (h : ¬ r64F (rsh A k) = true) : decide (A < 0) = decide (rsh A k < 0) := by
  have hp : (0 : Int) < 2 ^ k := Int.pow_pos (by decide)
  have h0 : rsh A k ≠ 0 := by intro e; rw [e] at h; exact h (by decide)
  have := rdiv_sign A (2 ^ k) h0
  rw [Bool.eq_iff_iff]; simp only [decide_eq_true_eq]
  unfold rsh at *
  rw [this]; simp [hp]
end Go.Proofs.Ytcbklolfibdffaa
