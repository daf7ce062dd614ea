/- Contracts of the program's functions and plain laws, part 16: they hold for all arguments. -/
import Derived.Test.YtpbgglkopfjagaaQ03
import Derived.Test.YtpbgglkopfjagaaProg
import Derived.Test.YtpbgglkopfjagaaQ01
import Derived.Outline
import Derived.BigRegion
import Derived.BigQuiet
import Derived.Deep.QuietTactic
import Derived.Deep.RegionHeld3
import Derived.Deep.Cut
import Derived.Deep.CutRange
import Derived.IntWalk
import Derived.Test.YtpbgglkopfjagaaQ07
import Derived.Test.YtpbgglkopfjagaaQ04
import Derived.OpenShut
import Derived.ProofKit
import Derived.Deep.MidRow
/- The reference's arithmetic by sign and size, against the program's by numbers. No program. -/
namespace Go.Proofs.Ytpbgglkopfjagaa
end Go.Proofs.Ytpbgglkopfjagaa
/- Contracts of the reference's scalars (1): product, size, mul, less. -/
namespace Go.Proofs.Ytpbgglkopfjagaa
open Go.RowKit
set_option maxRecDepth 100000
theorem and_mask (x : Int) (x0 : 0 ≤ x) (x1 : x < 18446744073709551616) : bits .and .u64 x 4294967295 = x % 4294967296 := by
  obtain ⟨n, rfl⟩ := Int.eq_ofNat_of_zero_le x0
  rw [show (4294967295 : Int) = ((4294967295 : Nat) : Int) from rfl, bits_and_u64_nat n 4294967295 (by omega) (by decide)]
  rw [show (4294967295 : Nat) = 2 ^ 32 - 1 from rfl, Nat.and_two_pow_sub_one_eq_mod]
  omega
end Go.Proofs.Ytpbgglkopfjagaa
/- Contracts of the reference's Clamp, Sat. -/
namespace Go.Proofs.Ytpbgglkopfjagaa
open Go.RowKit
set_option maxRecDepth 100000
theorem clamp1 {a lo hi : Int} (h : hi < lo ∨ a < lo) : clampV a lo hi = lo ∧ clampH a lo hi = true := by
  unfold clampV clampH
  rcases h with h | h <;> simp [h]
theorem clamp2 {a lo hi : Int} (h0 : ¬ hi < lo) (h1 : ¬ a < lo) (h : hi < a) : clampV a lo hi = hi ∧ clampH a lo hi = true := by
  simp [clampV, clampH, h0, h1, h]
theorem clamp3 {a lo hi : Int} (h0 : ¬ hi < lo) (h1 : ¬ a < lo) (h2 : ¬ hi < a) : clampV a lo hi = a ∧ clampH a lo hi = false := by
  simp [clampV, clampH, h0, h1, h2]
theorem rclamp_any (c : Addr) (h : Bool) (a lo hi : Int) (w : World) (hc : w.cell? c = some (.bool h)) (hf : w.frozen? c = false) :
    Calls Try.prog 55 #[.pointer (some c), .int .i64 a, .int .i64 lo, .int .i64 hi] w fun e w' =>
      e = .returned (.int .i64 (clampV a lo hi)) ∧ w.setCell c (.bool (h || clampH a lo hi)) = w' := by
  by_cases h1 : a < lo
  · obtain ⟨e1, e2⟩ := clamp1 (hi := hi) (.inr h1)
    rw [e1, e2, Bool.or_true]
    have d1 : decide (a < lo) = true := by simpa using h1
    have d2 : (lo != a) = true := by simp; omega
    clear e1 e2 h1
    go_enter Try.func55, Try.ntmps55
    go_wp2_with fail
    go_ret
    exact ⟨rfl, rfl⟩
  have d1 : decide (a < lo) = false := by simpa using h1
  by_cases h0 : hi < lo
  · obtain ⟨e1, e2⟩ := clamp1 (a := a) (.inl h0)
    rw [e1, e2, Bool.or_true]
    have d0 : decide (hi < lo) = true := by simpa using h0
    clear e1 e2 h0 h1
    by_cases h2 : lo = a
    · subst h2
      have d2 : (lo != lo) = false := by simp
      go_enter Try.func55, Try.ntmps55
      go_wp2_with fail
      go_ret
      exact ⟨rfl, rfl⟩
    · have d2 : (lo != a) = true := by simpa using h2
      clear h2
      go_enter Try.func55, Try.ntmps55
      go_wp2_with fail
      go_ret
      exact ⟨rfl, rfl⟩
  have d0 : decide (hi < lo) = false := by simpa using h0
  by_cases h2 : hi < a
  · obtain ⟨e1, e2⟩ := clamp2 h0 h1 h2
    rw [e1, e2, Bool.or_true]
    have d2 : decide (hi < a) = true := by simpa using h2
    have d3 : (hi != a) = true := by simp; omega
    clear e1 e2 h0 h1 h2
    go_enter Try.func55, Try.ntmps55
    go_wp2_with fail
    go_ret
    exact ⟨rfl, rfl⟩
  · obtain ⟨e1, e2⟩ := clamp3 h0 h1 h2
    rw [e1, e2, Bool.or_false, setCell_self w c _ hc]
    have d2 : decide (hi < a) = false := by simpa using h2
    have d3 : (a != a) = false := by simp
    clear e1 e2 h0 h1 h2
    go_enter Try.func55, Try.ntmps55
    go_wp2_with fail
    go_ret
    exact ⟨rfl, rfl⟩
theorem rsat_any (c : Addr) (h : Bool) (a : Int) (w : World) (hc : w.cell? c = some (.bool h)) (hf : w.frozen? c = false) :
    Calls Try.prog 33 #[.pointer (some c), .int .i64 a] w fun e w' => e = .returned (.int .i64 (satV a)) ∧ w.setCell c (.bool (h || satH a)) = w' := by
  go_enter Try.func33, Try.ntmps33
  go_wp2_with (go_at_call 55; refine (rclamp_any c h a _ _ _ hc hf).mono ?_; rintro e w' ⟨rfl, rfl⟩)
  go_ret
  exact ⟨rfl, rfl⟩
end Go.Proofs.Ytpbgglkopfjagaa
/- Sizes in eight parts of 32 bits: nought, the order, the difference, the product, part by part. No program. -/
namespace Go.Proofs.Ytpbgglkopfjagaa
def d32 (M i : Nat) : Nat := M / 2 ^ (32 * i) % 4294967296
theorem pow32 (i : Nat) : 2 ^ (32 * (i + 1)) = 2 ^ (32 * i) * 4294967296 := by rw [Nat.mul_add, Nat.pow_add]
theorem d32_bd (M i : Nat) : d32 M i < 4294967296 := Nat.mod_lt _ (by decide)
theorem d32_zero {V i : Nat} (h : V < 2 ^ (32 * i)) : d32 V i = 0 := by unfold d32; rw [Nat.div_eq_of_lt h]
theorem d32_low (n : Nat) (h : n < 18446744073709551616) (i : Nat) : d32 n i = if i = 0 then n % 4294967296 else if i = 1 then n / 4294967296 else 0 := by
  by_cases h0 : i = 0
  · subst h0; simp [d32]
  · rw [if_neg h0]
    by_cases h1 : i = 1
    · subst h1; rw [if_pos rfl]; unfold d32; show n / 4294967296 % 4294967296 = _; omega
    · rw [if_neg h1]
      exact d32_zero (Nat.lt_of_lt_of_le h (show 2 ^ 64 ≤ 2 ^ (32 * i) from Nat.pow_le_pow_right (by decide) (by omega)))
theorem mod32 (M i : Nat) : M % 2 ^ (32 * (i + 1)) = M % 2 ^ (32 * i) + d32 M i * 2 ^ (32 * i) := by
  unfold d32
  rw [pow32, Nat.mod_mul, Nat.mul_comm (2 ^ (32 * i))]
/-- The order by the highest part that differs. -/
theorem d32_lt {V R i : Nat} (h : V / 2 ^ (32 * (i + 1)) = R / 2 ^ (32 * (i + 1))) (hd : d32 V i < d32 R i) : V < R := by
  unfold d32 at hd
  rw [pow32, ← Nat.div_div_eq_div_mul, ← Nat.div_div_eq_div_mul] at h
  have : V / 2 ^ (32 * i) < R / 2 ^ (32 * i) := by omega
  rcases Nat.lt_or_ge V R with h2 | h2
  · exact h2
  · have := Nat.div_le_div_right (c := 2 ^ (32 * i)) h2; omega
theorem d32_eq {V R i : Nat} (h : V / 2 ^ (32 * (i + 1)) = R / 2 ^ (32 * (i + 1))) (hd : d32 V i = d32 R i) : V / 2 ^ (32 * i) = R / 2 ^ (32 * i) := by
  unfold d32 at hd
  rw [pow32, ← Nat.div_div_eq_div_mul, ← Nat.div_div_eq_div_mul] at h
  omega
/-- What is borrowed. -/
def brw (M N i : Nat) : Nat := if M % 2 ^ (32 * i) < N % 2 ^ (32 * i) then 1 else 0
theorem brw_0 (M N : Nat) : brw M N 0 = 0 := by simp [brw, Nat.mod_one]
theorem brw_le (M N i : Nat) : brw M N i ≤ 1 := by unfold brw; split <;> omega
theorem brw_succ (M N i : Nat) : brw M N (i + 1) = if d32 M i < d32 N i + brw M N i then 1 else 0 := by
  have X : 0 < 2 ^ (32 * i) := Nat.two_pow_pos _
  have m0 := Nat.mod_lt M X
  have n0 := Nat.mod_lt N X
  unfold brw
  rw [mod32, mod32]
  obtain ⟨X, hX⟩ : ∃ x, 2 ^ (32 * i) = x := ⟨_, rfl⟩
  rw [hX] at m0 n0 ⊢
  obtain ⟨m, hm⟩ : ∃ x, M % X = x := ⟨_, rfl⟩
  obtain ⟨n, hn⟩ : ∃ x, N % X = x := ⟨_, rfl⟩
  rw [hm] at m0 ⊢
  rw [hn] at n0 ⊢
  obtain ⟨a, ha⟩ : ∃ x, d32 M i = x := ⟨_, rfl⟩
  obtain ⟨b, hb⟩ : ∃ x, d32 N i = x := ⟨_, rfl⟩
  rw [ha, hb]
  rcases Nat.lt_trichotomy a b with h | h | h
  · have : (a + 1) * X ≤ b * X := Nat.mul_le_mul_right X h
    rw [Nat.add_mul, Nat.one_mul] at this
    rw [if_pos (by omega), if_pos (by split <;> omega)]
  · subst h
    by_cases h2 : m < n
    · rw [if_pos (by omega), if_pos h2, if_pos (by omega)]
    · rw [if_neg (by omega), if_neg h2, if_neg (by omega)]
  · have : (b + 1) * X ≤ a * X := Nat.mul_le_mul_right X h
    rw [Nat.add_mul, Nat.one_mul] at this
    rw [if_neg (by omega), if_neg (by split <;> omega)]
theorem sub_div32 (M N i : Nat) (h : N ≤ M) : (M - N) / 2 ^ (32 * i) + N / 2 ^ (32 * i) + brw M N i = M / 2 ^ (32 * i) := by
  have X0 : 0 < 2 ^ (32 * i) := Nat.two_pow_pos _
  unfold brw
  obtain ⟨X, hX⟩ : ∃ x, 2 ^ (32 * i) = x := ⟨_, rfl⟩
  rw [hX] at X0 ⊢
  have hm := Nat.div_add_mod M X
  have hn := Nat.div_add_mod N X
  have m0 := Nat.mod_lt M X0
  have n0 := Nat.mod_lt N X0
  obtain ⟨q, hq⟩ : ∃ x, M / X = x := ⟨_, rfl⟩
  obtain ⟨s, hs⟩ : ∃ x, N / X = x := ⟨_, rfl⟩
  obtain ⟨r, hr⟩ : ∃ x, M % X = x := ⟨_, rfl⟩
  obtain ⟨t, ht⟩ : ∃ x, N % X = x := ⟨_, rfl⟩
  rw [hq, hr] at hm
  rw [hs, ht] at hn
  rw [hr] at m0
  rw [ht] at n0
  rw [hq, hs, hr, ht]
  by_cases c : r < t
  · rw [if_pos c]
    have hsq : s < q := by
      rcases Nat.lt_or_ge s q with h2 | h2
      · exact h2
      · have := Nat.mul_le_mul_left X h2; omega
    obtain ⟨d, rfl⟩ : ∃ d, q = s + 1 + d := ⟨q - s - 1, by omega⟩
    rw [Nat.mul_add, Nat.mul_add, Nat.mul_one] at hm
    have : (M - N) / X = d := by
      rw [show M - N = (X + r - t) + X * d by omega, Nat.add_mul_div_left _ _ X0, Nat.div_eq_of_lt (by omega), Nat.zero_add]
    omega
  · rw [if_neg c]
    have hsq : s ≤ q := by
      rcases Nat.lt_or_ge q s with h2 | h2
      · have := Nat.mul_le_mul_left X h2; rw [Nat.mul_succ] at this; omega
      · exact h2
    obtain ⟨d, rfl⟩ : ∃ d, q = s + d := ⟨q - s, by omega⟩
    rw [Nat.mul_add] at hm
    have : (M - N) / X = d := by
      rw [show M - N = (r - t) + X * d by omega, Nat.add_mul_div_left _ _ X0, Nat.div_eq_of_lt (by omega), Nat.zero_add]
    omega
/-- A part of the difference, out of the parts and what is borrowed. -/
theorem sub_at (M N i : Nat) (h : N ≤ M) : d32 (M - N) i = if d32 M i < d32 N i + brw M N i then d32 M i + 4294967296 - d32 N i - brw M N i else d32 M i - d32 N i - brw M N i := by
  have e := sub_div32 M N i h
  have b := brw_le M N i
  unfold d32
  obtain ⟨q, hq⟩ : ∃ x, M / 2 ^ (32 * i) = x := ⟨_, rfl⟩
  obtain ⟨s, hs⟩ : ∃ x, N / 2 ^ (32 * i) = x := ⟨_, rfl⟩
  obtain ⟨d, hd⟩ : ∃ x, (M - N) / 2 ^ (32 * i) = x := ⟨_, rfl⟩
  obtain ⟨c, hc⟩ : ∃ x, brw M N i = x := ⟨_, rfl⟩
  rw [hq, hs, hd, hc] at e
  rw [hc] at b
  rw [hq, hs, hd, hc]
  split <;> omega
/-- The product: what stands behind k parts of row i. -/
def mlX (R a N i k : Nat) : Nat := R % 2 ^ (32 * (i + k)) + a * (N % 2 ^ (32 * k)) * 2 ^ (32 * i)
def mlC (R a N i k : Nat) : Nat := mlX R a N i k / 2 ^ (32 * (i + k))
def mlF (R a N i k j : Nat) : Nat := if j < i + k then d32 (mlX R a N i k) j else d32 R j
theorem mlC_0 (R a N i : Nat) : mlC R a N i 0 = 0 := by
  unfold mlC mlX
  rw [Nat.mul_zero, Nat.pow_zero, Nat.mod_one, Nat.mul_zero, Nat.zero_mul, Nat.add_zero, Nat.div_eq_of_lt (Nat.mod_lt _ (Nat.two_pow_pos _))]
theorem mlX_succ (R a N i k : Nat) : mlX R a N i (k + 1) = mlX R a N i k + (d32 R (i + k) + a * d32 N k) * 2 ^ (32 * (i + k)) := by
  unfold mlX
  rw [show i + (k + 1) = (i + k) + 1 from rfl, mod32 R, mod32 N]
  have e : 2 ^ (32 * (i + k)) = 2 ^ (32 * k) * 2 ^ (32 * i) := by rw [← Nat.pow_add]; congr 1; omega
  rw [e]
  obtain ⟨z, hz⟩ : ∃ x, R % (2 ^ (32 * k) * 2 ^ (32 * i)) = x := ⟨_, rfl⟩
  obtain ⟨t, ht⟩ : ∃ x, N % 2 ^ (32 * k) = x := ⟨_, rfl⟩
  rw [hz, ht]
  obtain ⟨x, hx⟩ : ∃ x, d32 R (i + k) = x := ⟨_, rfl⟩
  obtain ⟨y, hy⟩ : ∃ x, d32 N k = x := ⟨_, rfl⟩
  obtain ⟨u, hu⟩ : ∃ x, 2 ^ (32 * k) = x := ⟨_, rfl⟩
  obtain ⟨v, hv⟩ : ∃ x, 2 ^ (32 * i) = x := ⟨_, rfl⟩
  rw [hx, hy, hu, hv]
  grind
theorem mlX_div (R a N i k : Nat) : mlX R a N i (k + 1) / 2 ^ (32 * (i + k)) = mlC R a N i k + d32 R (i + k) + a * d32 N k := by
  rw [mlX_succ, Nat.add_mul_div_right _ _ (Nat.two_pow_pos _)]
  unfold mlC
  omega
theorem mlC_succ (R a N i k : Nat) : mlC R a N i (k + 1) = (mlC R a N i k + d32 R (i + k) + a * d32 N k) / 4294967296 := by
  rw [← mlX_div]
  conv => lhs; unfold mlC
  rw [show i + (k + 1) = (i + k) + 1 from rfl, pow32, ← Nat.div_div_eq_div_mul]
theorem ml_sum {c x a y : Nat} (hc : c < 4294967296) (hx : x < 4294967296) (ha : a < 4294967296) (hy : y < 4294967296) : a * y ≤ 18446744065119617025 ∧ c + x + a * y < 18446744073709551616 ∧ (c + x + a * y) / 4294967296 < 4294967296 := by
  have : a * y ≤ 4294967295 * 4294967295 := Nat.mul_le_mul (by omega) (by omega)
  omega
theorem mlC_bd (R a N i : Nat) (ha : a < 4294967296) : ∀ k, mlC R a N i k < 4294967296
  | 0 => by rw [mlC_0]; decide
  | k + 1 => by rw [mlC_succ]; exact (ml_sum (mlC_bd R a N i ha k) (d32_bd _ _) ha (d32_bd _ _)).2.2
theorem d32_add {A m : Nat} (s : Nat) {j : Nat} (h : j < m) : d32 (A + s * 2 ^ (32 * m)) j = d32 A j := by
  unfold d32
  obtain ⟨e, rfl⟩ : ∃ e, m = j + 1 + e := ⟨m - j - 1, by omega⟩
  rw [show 32 * (j + 1 + e) = 32 * (j + 1) + 32 * e by omega, Nat.pow_add, pow32, show s * (2 ^ (32 * j) * 4294967296 * 2 ^ (32 * e)) = (s * 2 ^ (32 * e) * 4294967296) * 2 ^ (32 * j) by
    obtain ⟨u, hu⟩ : ∃ x, 2 ^ (32 * e) = x := ⟨_, rfl⟩
    obtain ⟨v, hv⟩ : ∃ x, 2 ^ (32 * j) = x := ⟨_, rfl⟩
    rw [hu, hv]; grind, Nat.add_mul_div_right _ _ (Nat.two_pow_pos _)]
  omega
theorem d32_mod (A m : Nat) {j : Nat} (h : j < m) : d32 (A % 2 ^ (32 * m)) j = d32 A j := by
  conv => rhs; rw [← Nat.mod_add_div A (2 ^ (32 * m)), Nat.mul_comm (2 ^ (32 * m))]
  rw [d32_add _ h]
theorem mlF_0 (R a N i j : Nat) : mlF R a N i 0 j = d32 R j := by
  unfold mlF
  split
  · rename_i h
    unfold mlX
    rw [Nat.mul_zero, Nat.pow_zero, Nat.mod_one, Nat.mul_zero, Nat.zero_mul, Nat.add_zero, d32_mod R (i + 0) h]
  · rfl
theorem mlF_at (R a N i k : Nat) : mlF R a N i k (i + k) = d32 R (i + k) := by unfold mlF; rw [if_neg (by omega)]
theorem mlF_succ (R a N i k j : Nat) : mlF R a N i (k + 1) j = if j = i + k then (mlC R a N i k + d32 R (i + k) + a * d32 N k) % 4294967296 else mlF R a N i k j := by
  by_cases h : j = i + k
  · subst h
    rw [if_pos rfl, ← mlX_div]
    unfold mlF
    rw [if_pos (by omega)]; rfl
  · rw [if_neg h]
    unfold mlF
    by_cases h2 : j < i + k
    · rw [if_pos (by omega), if_pos h2, mlX_succ, d32_add _ h2]
    · rw [if_neg (by omega), if_neg h2]
/-- Behind a whole row. -/
theorem mlF_end (M N i j : Nat) (hi : i < 8) (hj : j < 8) : mlF ((M % 2 ^ (32 * i)) * N) (d32 M i) N i (8 - i) j = d32 ((M % 2 ^ (32 * (i + 1))) * N) j := by
  unfold mlF
  rw [if_pos (by omega), mod32 M, Nat.add_mul, ← d32_mod (mlX _ _ _ _ _) 8 hj, ← d32_mod (_ + _) 8 hj]
  congr 1
  unfold mlX
  rw [show i + (8 - i) = 8 by omega]
  rw [Nat.add_mod, Nat.add_mod (M % 2 ^ (32 * i) * N), Nat.mod_mod]
  congr 2
  rw [Nat.mul_assoc, Nat.mul_assoc, Nat.mul_mod, Nat.mul_mod (d32 M i) (2 ^ (32 * i) * N)]
  congr 2
  rw [Nat.mul_comm (2 ^ (32 * i)), show (2 : Nat) ^ (32 * 8) = 2 ^ (32 * (8 - i)) * 2 ^ (32 * i) by rw [← Nat.pow_add]; congr 1; omega, ← Nat.mul_mod_mul_right, Nat.mod_mod]
end Go.Proofs.Ytpbgglkopfjagaa
/- Arguments that are arrays of int64 (or structs of such): opened as numbers; a slice of int64 too. Of no one program. -/
namespace Go.Proofs.Ytpbgglkopfjagaa
open Go.RowKit Go.ChangeShapes
section
variable {H : Type} {enc : TypeId × Value → H} {P : Program} {w : World} {base : Nat} {spare : Nat → Bool} {held : Bool}
end
end Go.Proofs.Ytpbgglkopfjagaa
/- Rows of eight parts (uint64), and with a sign ahead of them (astrolaberef1.Big): as cells; loads, stores, built values. -/
namespace Go.Proofs.Ytpbgglkopfjagaa
open Go.RowKit
set_option maxRecDepth 100000
/-- Eight parts. -/
def uv (f : Nat → Nat) : Array Value := Array.ofFn (n := 8) fun i => .int .u64 ((f i : Nat) : Int)
/-- A sign, and eight parts. -/
def bg (m : Bool) (f : Nat → Nat) : Array Value := Array.ofFn (n := 9) fun i => if i.val = 0 then .bool m else .int .u64 ((f (i.val - 1) : Nat) : Int)
theorem uv_size (f : Nat → Nat) : (uv f).size = 8 := by simp [uv]
theorem bg_size (m : Bool) (f : Nat → Nat) : (bg m f).size = 9 := by simp [bg]
theorem uv_get {f : Nat → Nat} {i : Nat} (h : i < 8) : (uv f)[i]? = some (.int .u64 ((f i : Nat) : Int)) := by simp [uv, h]
theorem bg_get0 {m : Bool} {f : Nat → Nat} : (bg m f)[0]? = some (.bool m) := by simp [bg]
theorem bg_get {m : Bool} {f : Nat → Nat} {i : Nat} (h : i < 8) : (bg m f)[1 + i]? = some (.int .u64 ((f i : Nat) : Int)) := by
  unfold bg
  rw [Array.getElem?_ofFn, dif_pos (by omega)]
  simp
def updN (f : Nat → Nat) (i v : Nat) : Nat → Nat := fun j => if j = i then v else f j
theorem uv_congr {f g : Nat → Nat} (h : ∀ i, i < 8 → f i = g i) : uv f = uv g := by
  apply Array.ext_getElem?
  intro i
  by_cases hi : i < 8
  · rw [uv_get hi, uv_get hi, h i hi]
  · rw [Array.getElem?_eq_none (by rw [uv_size]; omega), Array.getElem?_eq_none (by rw [uv_size]; omega)]
theorem uv_set (f : Nat → Nat) (j v : Nat) : (uv f).setIfInBounds j (.int .u64 ((v : Nat) : Int)) = uv (updN f j v) := by
  apply Array.ext_getElem?
  intro i
  rw [Array.getElem?_setIfInBounds]
  by_cases hi : i < 8
  · rw [uv_get hi]
    by_cases hj : j = i
    · subst hj; rw [if_pos rfl, uv_get hi, uv_size, if_pos hi]; simp [updN]
    · rw [if_neg hj, uv_get hi]; simp [updN, show ¬ i = j by omega]
  · rw [Array.getElem?_eq_none (by rw [uv_size]; omega)]
    rw [Array.getElem?_eq_none (xs := uv (updN f j v)) (by rw [uv_size]; omega)]
    split
    · rw [uv_size, if_neg (by omega)]
    · rfl
theorem oneCell_uv (f : Nat → Nat) : (uv f).all (·.oneCell') = true := by
  rw [Array.all_eq_true]
  intro i hi
  simp [uv, Value.oneCell']
theorem oneCell_bg (m : Bool) (f : Nat → Nat) : (bg m f).all (·.oneCell') = true := by
  rw [Array.all_eq_true]
  intro i hi
  simp only [bg, Array.getElem_ofFn]
  split <;> rfl
/-- Block b holds these cells. -/
def Row (w : World) (b : Nat) (T : TypeId) (cs : Array Value) : Prop := w.heap[b]? = some (.cells cs T (0, 0))
section
variable {w w' : World} {b T : Nat} {cs : Array Value}
theorem Row.lt (h : Row w b T cs) : b < w.heap.size := by
  rcases Nat.lt_or_ge b w.heap.size with h' | h'
  · exact h'
  · unfold Row at h; rw [Array.getElem?_eq_none h'] at h; cases h
theorem Row.below (h : Row w b T cs) (hb : Below w.heap.size w w') : Row w' b T cs := (hb.block b h.lt).trans h
theorem Row.alloc (h : Row w b T cs) (o : Obj) : Row (w.alloc o) b T cs := h.below ((Below.refl w.heap.size w).alloc (Nat.le_refl _) o)
theorem Row.drew (h : Row w b T cs) : Row w.drew b T cs := h
theorem Row.free (h : Row w b T cs) (i : Nat) : w.frozen? ⟨b, i, none⟩ = false := frozen_of_row w b i _ _ h
theorem Row.at (h : Row w b T cs) {i : Nat} {v : Value} (e : cs[i]? = some v) : w.cell? ⟨b, i, none⟩ = some v := by rw [cell_of_row w b i _ _ _ h, e]
theorem Row.other (h : Row w b T cs) {a : Addr} (ha : b ≠ a.block) (v : Value) : Row (w.setCell a v) b T cs := (heap_setCell_other w a b v ha).trans h
theorem Row.set (h : Row w b T cs) (j : Nat) (v : Value) : Row (w.setCell ⟨b, j, none⟩ v) b T (cs.setIfInBounds j v) := heap_setCell_same w b j _ _ v h
theorem Row.setRow (h : Row w b T cs) (cs' : Array Value) : Row (w.setRow b cs') b T cs' := setRow_heap w b _ _ T _ h
theorem Row.setRow_other (h : Row w b T cs) {k : Nat} (cs' : Array Value) (hk : b ≠ k) : Row (w.setRow k cs') b T cs := (Go.setRow_other w k b cs' hk).trans h
theorem Row.new (w : World) (T : TypeId) (cs : Array Value) : Row (w.alloc (.cells cs T)) w.heap.size T cs := heap_alloc_new w _
theorem Row.new1 (w : World) (o : Obj) (T : TypeId) (cs : Array Value) : Row ((w.alloc o).alloc (.cells cs T)) (w.heap.size + 1) T cs := by
  have h := Row.new (w.alloc o) T cs
  rwa [show (w.alloc o).heap.size = w.heap.size + 1 from by simp] at h
theorem Row.new2 (w : World) (o o2 : Obj) (T : TypeId) (cs : Array Value) : Row (((w.alloc o).alloc o2).alloc (.cells cs T)) (w.heap.size + 1 + 1) T cs := by
  have h := Row.new1 (w.alloc o) o2 T cs
  rwa [show (w.alloc o).heap.size = w.heap.size + 1 from by simp] at h
theorem Row.new3 (w : World) (o o2 o3 : Obj) (T : TypeId) (cs : Array Value) : Row ((((w.alloc o).alloc o2).alloc o3).alloc (.cells cs T)) (w.heap.size + 1 + 1 + 1) T cs := by
  have h := Row.new2 (w.alloc o) o2 o3 T cs
  rwa [show (w.alloc o).heap.size = w.heap.size + 1 from by simp] at h
end
/-- The parts of a row of eight. -/
theorem Row.part {w : World} {b T : Nat} {f : Nat → Nat} (h : Row w b T (uv f)) {i : Nat} (hi : i < 8) : w.cell? ⟨b, i, none⟩ = some (.int .u64 ((f i : Nat) : Int)) := h.at (uv_get hi)
theorem Row.sign {w : World} {b T : Nat} {m : Bool} {f : Nat → Nat} (h : Row w b T (bg m f)) : w.cell? ⟨b, 0, none⟩ = some (.bool m) := h.at bg_get0
theorem Row.bpart {w : World} {b T : Nat} {m : Bool} {f : Nat → Nat} (h : Row w b T (bg m f)) {i : Nat} (hi : i < 8) : w.cell? ⟨b, 1 + i, none⟩ = some (.int .u64 ((f i : Nat) : Int)) := h.at (bg_get hi)
theorem Row.setU {w : World} {b T : Nat} {f : Nat → Nat} (h : Row w b T (uv f)) (j v : Nat) : Row (w.setCell ⟨b, j, none⟩ (.int .u64 ((v : Nat) : Int))) b T (uv (updN f j v)) := by
  rw [← uv_set]; exact h.set j _
theorem iuv : (Try.prog.info? 48).map (·.size) = some 8 := by kernel_rfl
theorem ibg : (Try.prog.info? 50).map (·.size) = some 9 := by kernel_rfl
open Go in
theorem run_store_rowc {P : Program} {ev : Operand → Value} {o : Oper} {w : World} (ty : TypeId) (x y : Operand) (ho : o.op = .store ty x y)
    (g : Nat) (hx : ev x = .pointer (some ⟨g, 0, none⟩)) {T : Nat} {cs cs' : Array Value} (hy : ev y = .agg cs') (hg : Row w g T cs) (hz : cs'.size = cs.size) (h1 : cs'.all (·.oneCell') = true) (hi : (P.info? ty).map (·.size) = some cs'.size) :
    (execOp ev o).run P w = .ok .skip (w.setRow g cs') := by
  unfold execOp
  simp only [ho, hx, hy, Instr.storeAt, Instr.sureAddr, Sem.run_bind, Sem.run_pure, Result.andThen_ok, run_storeVar_row (P := P) w g T ty cs cs' hg (hi.trans (by rw [hz])) hz.symm h1]
open Go in
theorem run_storeCells_rowc {P : Program} {w : World} {g T : Nat} {cs : Array Value} (cs' : Array Value) (h : Row w g T cs) (hz : cs'.size = cs.size) (h1 : cs'.all (·.oneCell') = true) :
    (storeCells ⟨g, 0, none⟩ cs'.toList).run P w = .ok () (w.setRow g cs') := by
  have e := run_storeCells_at (P := P) g 0 T cs'.toList 0 cs w h (by simp [hz]) (fun v hv => (Array.all_eq_true'.1 h1) v (by simpa using hv))
  rw [e]
  congr 2
  simp only [Nat.zero_add, Nat.add_zero, List.take_zero, List.nil_append, Array.length_toList]
  rw [List.drop_of_length_le (by simp [hz]), List.append_nil, Array.toArray_toList]
open Go in
/-- The parts of a Big, loaded. -/
theorem run_load_parts {o : Oper} {ev : Operand → Value} {w : World} (x : Operand) (ho : o.op = .load 48 x) (b : Nat) (hx : ev x = .pointer (some ⟨b, 1, none⟩)) {T : Nat} {m : Bool} {f : Nat → Nat} (h : Row w b T (bg m f)) :
    (execOp ev o).run Try.prog w = .ok (.value (.agg (uv f))) w := by
  have k := run_loadVar_mid (P := Try.prog) w b 1 48 (uv f).toList _ (fun j v hv => by
    have hj : j < 8 := by
      have := (List.getElem?_eq_some_iff.1 hv).1
      simpa [uv_size] using this
    rw [Array.getElem?_toList, uv_get hj] at hv
    injection hv with hv
    rw [← hv]; exact h.bpart hj) Try.underlying48 rfl (by rw [iuv, Array.length_toList, uv_size])
  rw [Array.toArray_toList] at k
  unfold execOp
  simp [ho, hx, Instr.loadAt, Instr.sureAddr, Sem.run_bind, k]
open Go in
theorem run_build_bg {o : Oper} {ev : Operand → Value} {w : World} (x y : Operand) (ho : o.op = .build 50 #[(0, x), (1, y)]) {m : Bool} {f : Nat → Nat} (hx : ev x = .bool m) (hy : ev y = .agg (uv f)) :
    (execOp ev o).run Try.prog w = .ok (.value (.agg (bg m f))) w := by
  unfold execOp
  simp only [ho, List.map_toArray, List.map_cons, List.map_nil, hx, hy]
  kernel_rfl
open Go in
theorem run_build_uv2 {o : Oper} {ev : Operand → Value} {w : World} (x y : Operand) (ho : o.op = .build 48 #[(0, x), (1, y)]) {m n : Nat} (hx : ev x = .int .u64 ((m : Nat) : Int)) (hy : ev y = .int .u64 ((n : Nat) : Int)) :
    (execOp ev o).run Try.prog w = .ok (.value (.agg (uv fun i => if i = 0 then m else if i = 1 then n else 0))) w := by
  unfold execOp
  simp only [ho, List.map_toArray, List.map_cons, List.map_nil, hx, hy]
  kernel_rfl
theorem zuv : (#[.int .u64 0, .int .u64 0, .int .u64 0, .int .u64 0, .int .u64 0, .int .u64 0, .int .u64 0, .int .u64 0] : Array Value) = uv (fun _ => 0) := by kernel_rfl
theorem zbg : (#[.bool false, .int .u64 0, .int .u64 0, .int .u64 0, .int .u64 0, .int .u64 0, .int .u64 0, .int .u64 0, .int .u64 0] : Array Value) = bg false (fun _ => 0) := by kernel_rfl
end Go.Proofs.Ytpbgglkopfjagaa
/- A region that draws its order: behind its last call another fact about the world may be taken up. -/
namespace Go.Proofs.Ytpbgglkopfjagaa
open Go
end Go.Proofs.Ytpbgglkopfjagaa
/- Contracts of the reference's sizes (1): zero, size, made, Of. -/
namespace Go.Proofs.Ytpbgglkopfjagaa
open Go.RowKit
set_option maxRecDepth 100000
def zerB (f : Nat → Nat) : Nat → Bool | 0 => true | k + 1 => zerB f k && decide (f k = 0)
theorem zerB_no {f : Nat → Nat} {k : Nat} (hk : f k ≠ 0) : ∀ {n : Nat}, k < n → zerB f n = false
  | n + 1, h => by
    simp only [zerB]
    by_cases e : k = n
    · subst e; simp [hk]
    · rw [zerB_no hk (by omega)]; rfl
theorem zerB_mod (M : Nat) : ∀ n, zerB (d32 M) n = decide (M % 2 ^ (32 * n) = 0)
  | 0 => by simp [zerB, Nat.mod_one]
  | n + 1 => by
    simp only [zerB]
    rw [zerB_mod M n, mod32]
    have X0 : 0 < 2 ^ (32 * n) := Nat.two_pow_pos _
    obtain ⟨X, hX⟩ : ∃ x, 2 ^ (32 * n) = x := ⟨_, rfl⟩
    rw [hX] at X0 ⊢
    obtain ⟨d, hd⟩ : ∃ x, d32 M n = x := ⟨_, rfl⟩
    rw [hd, ← Bool.decide_and, decide_eq_decide]
    constructor
    · rintro ⟨h1, h2⟩; rw [h1, h2]; simp
    · intro h
      obtain ⟨h1, h2⟩ := Nat.add_eq_zero_iff.1 h
      refine ⟨h1, ?_⟩
      rcases Nat.mul_eq_zero.1 h2 with h3 | h3 <;> omega
theorem zerB_d32 (M : Nat) (h : M < 115792089237316195423570985008687907853269984665640564039457584007913129639936) : zerB (d32 M) 8 = decide (M = 0) := by
  rw [zerB_mod, Nat.mod_eq_of_lt (show M < 2 ^ (32 * 8) from h)]
set_option maxHeartbeats 4000000 in
theorem bzero_any (f : Nat → Nat) (w : World) :
    Calls Try.prog 30 #[.agg (uv f)] w fun e w' => e = .returned (.bool (zerB f 8)) ∧ Below w.heap.size w w' := by
  have Z0 := Lib.hid (And.intro (Row.new w 48 (uv f)) (show Below w.heap.size w (w.alloc (.cells (uv f) 48)) by (repeat (first | with_reducible exact Below.refl _ _ | with_reducible apply Below.drew | (with_reducible refine below_drewN ?_ _) | (with_reducible refine Below.alloc ?_ (by (try simp) <;> omega) _) | (with_reducible refine Below.setCell ?_ (by (try simp) <;> omega) _)))))
  go_enter Try.func30, Try.ntmps30
  go_upto_region 1 with fail
  generalize w.alloc (.cells (uv f) 48) = W0 at *
  go_wp2_with fail
  go_loopw [3] (fun i wr => ∃ k : Nat, k ≤ 8 ∧ i = .int .i64 k ∧ Hid (zerB f k = true ∧ Row wr w.heap.size 48 (uv f) ∧ Below w.heap.size w wr)) (fun i _ => 8 - (intOf i).toNat)
  case atStart => exact ⟨0, by omega, rfl, Lib.hid ⟨rfl, Z0.out.1, Z0.out.2⟩⟩
  case round =>
    obtain ⟨k, hk, rfl, R⟩ := hrel
    clear Z0
    by_cases hlt : k < 8
    · have g1 : decide ((k : Int) < 8) = true := by simp; omega
      have k0 : (0 : Int) ≤ (k : Int) := Int.natCast_nonneg _
      have k1 : (k : Int) < 8 := by omega
      have rc := R.out.2.1.part hlt
      by_cases hz : f k = 0
      · have HZ := Lib.hid (show zerB f (k + 1) = true by simp only [zerB]; rw [R.out.1, hz]; rfl)
        rw [hz] at rc
        have q1 : (((0 : Nat) : Int) != 0) = false := by simp
        clear hz
        go_wp2_with fail
        go_roundw
        case rel => exact ⟨k + 1, by omega, by go_num, Lib.hid ⟨HZ.out, R.out.2.1, R.out.2.2⟩⟩
        case measure => simp [intOf]; omega
      · have HZ := Lib.hid (zerB_no hz hlt)
        obtain ⟨x, hx⟩ : ∃ x, f k = x := ⟨_, rfl⟩
        rw [hx] at rc hz
        have q1 : ((x : Int) != 0) = true := by simp; omega
        clear hx
        go_wp2_with fail
        go_ret
        exact ⟨by rw [HZ.out]; rfl, R.out.2.2⟩
    · have g1 : decide ((k : Int) < 8) = false := by simp; omega
      have hk8 : k = 8 := by omega
      subst hk8
      go_wp2_with fail
      go_ret
      exact ⟨by rw [R.out.1]; rfl, R.out.2.2⟩
theorem bsize_any (a : Int) (w : World) (a0 : -1152921504606846976 ≤ a) (a1 : a ≤ 1152921504606846976) :
    Calls Try.prog 25 #[.int .i64 a] w fun e w' => e = .returned (.int .u64 (a.natAbs : Int)) ∧ w = w' := by
  by_cases h : a < 0
  · have d : decide (a < 0) = true := by simpa using h
    go_enter Try.func25, Try.ntmps25
    go_wp2
    go_ret
    exact ⟨retI (by (try simp only [IntKind.wrap_u64]); omega), rfl⟩
  · have d : decide (a < 0) = false := by simpa using h
    go_enter Try.func25, Try.ntmps25
    go_wp2
    go_ret
    exact ⟨retI (by (try simp only [IntKind.wrap_u64]); omega), rfl⟩
/-- The blocks of 'made'. -/
structure MdB (f : Nat → Nat) (w wr : World) : Prop where
  below : Below w.heap.size w wr
  p : Row wr w.heap.size 48 (uv f)
  r : Row wr (w.heap.size + 1) 50 (bg false (fun _ => 0))
theorem MdB.down {f : Nat → Nat} {w wr w' : World} (s : MdB f w wr) (k : Below wr.heap.size wr w') : MdB f w w' := ⟨s.below.trans (k.mono s.below.size), s.p.below k, s.r.below k⟩
theorem MdB.drew {f : Nat → Nat} {w wr : World} (s : MdB f w wr) : MdB f w wr.drew := s.down (Below.drew (Below.refl _ _))
set_option maxHeartbeats 4000000 in
theorem bmade_any (m : Bool) (f : Nat → Nat) (w : World) :
    Calls Try.prog 26 #[.bool m, .agg (uv f)] w fun e w' => e = .returned (.agg (bg (m && !zerB f 8) f)) ∧ Below w.heap.size w w' := by
  have ZC := Lib.hid (fun (x : World) => bzero_any f x)
  obtain ⟨Z, hZ⟩ : ∃ x, zerB f 8 = x := ⟨_, rfl⟩
  rw [hZ] at ZC ⊢
  clear hZ
  go_enter Try.func26, Try.ntmps26
  have S0 := Lib.hid (show MdB f w ((w.alloc (.cells (uv f) 48)).alloc (.cells #[.bool false, .int .u64 0, .int .u64 0, .int .u64 0, .int .u64 0, .int .u64 0, .int .u64 0, .int .u64 0, .int .u64 0] 50)) from ⟨by (repeat (first | with_reducible exact Below.refl _ _ | with_reducible apply Below.drew | (with_reducible refine below_drewN ?_ _) | (with_reducible refine Below.alloc ?_ (by (try simp) <;> omega) _) | (with_reducible refine Below.setCell ?_ (by (try simp) <;> omega) _))), (Row.new w _ _).alloc _, by rw [zbg]; exact Row.new1 w _ _ _⟩)
  go_upto_region 1 with fail
  generalize (w.alloc (.cells (uv f) 48)).alloc (.cells #[.bool false, .int .u64 0, .int .u64 0, .int .u64 0, .int .u64 0, .int .u64 0, .int .u64 0, .int .u64 0, .int .u64 0] 50) = W0 at *
  cases m
  case false =>
    refine wp_region_M (fun w' => Row w' w.heap.size 48 (uv f)) 8 (by kernel_rfl) ?_ (fun hHeld => ?_)
    · exact S0.out.p
    refine wpAnyM_take 0 (v := ?_) rfl (by kernel_rfl) (fun _ _ _ h => h) (Or.inl ⟨by rfl, ?_⟩) (by assumption) ?_
    rotate_left
    · (intro wx hSw; (try dsimp only at hSw); go_simp; (try with_reducible rfl))
    (try simp only [Act.put, nA, nB, nC])
    refine wpAnyM_take 1 (v := ?_) rfl (by kernel_rfl) (fun _ _ _ h => h) (Or.inl ⟨by rfl, ?_⟩) (by assumption) ?_
    rotate_left
    · (intro wx hSw; (try dsimp only at hSw); go_simp; (try with_reducible rfl))
    (try simp only [Act.put, nA, nB, nC])
    first | (refine wpAnyM_take 2 (v := ?_) rfl (by kernel_rfl) (fun _ _ _ h => h) (Or.inl ⟨by rfl, ?_⟩) (by assumption) ?_; rotate_left; focus ((intro wx hSw; refine Eq.trans (run_load_row 48 (.tmp 3) (by rfl) w.heap.size (by rfl) _ _ _ _ hSw Try.underlying48 rfl (iuv.trans (by rw [uv_size]))) ?_; with_reducible rfl))) | (refine wpAnyM_take 2 rfl (by kernel_rfl) (fun _ _ _ h => h) (Or.inr ⟨by rfl, rfl⟩) (by assumption) ?_)
    (try simp only [Act.put, nA, nB, nC])
    refine wpAnyM_take 6 (v := ?_) rfl (by kernel_rfl) (fun _ _ _ h => h) (Or.inl ⟨by rfl, ?_⟩) (by assumption) ?_
    rotate_left
    · (intro wx hSw; refine Eq.trans (run_load_row 48 (.tmp 3) (by rfl) w.heap.size (by rfl) _ _ _ _ hSw Try.underlying48 rfl (iuv.trans (by rw [uv_size]))) ?_; with_reducible rfl)
    (try simp only [Act.put, nA, nB, nC])
    refine wpAnyM_oneS 3 rfl (by kernel_rfl) (fun K hK => ?_)
    go_simp
    skip
    (try dsimp only)
    (try simp only [Act.put, nA, nB, nC])
    clear hHeld
    refine hK.out _ _ ?_ (fun hHeld => ?_)
    · exact S0.out.p
    clear hK K
    (try simp only [Act.put, nA, nB, nC])
    first | (refine wpAnyM_take 4 (v := ?_) rfl (by kernel_rfl) (fun _ _ _ h => h) (Or.inl ⟨by rfl, ?_⟩) (by assumption) ?_; rotate_left; focus ((intro wx hSw; (try dsimp only at hSw); go_simp; (try with_reducible rfl)))) | (refine wpAnyM_take 4 rfl (by kernel_rfl) (fun _ _ _ h => h) (Or.inr ⟨by rfl, rfl⟩) (by assumption) ?_)
    (try simp only [Act.put, nA, nB, nC])
    refine wpAnyM_take 5 (v := ?_) rfl (by kernel_rfl) (fun _ _ _ h => h) (Or.inl ⟨by rfl, ?_⟩) (by assumption) ?_
    rotate_left
    · (intro wx hSw; (try dsimp only at hSw); go_simp; (try with_reducible rfl))
    (try simp only [Act.put, nA, nB, nC])
    refine wpAnyM_take 7 (v := ?_) rfl (by kernel_rfl) (fun _ _ _ h => h) (Or.inl ⟨by rfl, ?_⟩) (by assumption) ?_
    rotate_left
    · (intro wx hSw; refine Eq.trans (run_build_bg (.tmp 10) (.tmp 11) (by rfl) (by rfl) (by rfl)) ?_; with_reducible rfl)
    (try simp only [Act.put, nA, nB, nC])
    refine wpAnyM_one 8 rfl (by kernel_rfl) (fun K hK => ?_)
    go_simp; rw [if_pos (bg_size _ _), run_storeCells_rowc _ S0.out.r.drew (by rw [bg_size, bg_size]) (oneCell_bg _ _)]; go_simp
    refine hK.out _ _ (.inl (by kernel_rfl)) (fun _ => ?_)
    clear hK K
    (try simp only [Act.put, nA, nB, nC])
    refine wpAnyM_done (by kernel_rfl) ?_ _
    have r1 := S0.out.r.drew.setRow (bg false f)
    have B1 : Below w.heap.size w (W0.drew.setRow (w.heap.size + 1) (bg false f)) := below_row S0.out.drew.below (by omega) _
    generalize W0.drew.setRow (w.heap.size + 1) (bg false f) = W2 at *
    go_wp2_with fail
    refine bodyPost_ret (results_cell_row Try.results26 _ _ (w.heap.size + 1) 50 (bg false f) (0, 0) _ rfl r1 Try.underlying50 rfl (ibg.trans (by rw [bg_size]))) rfl ⟨rfl, B1⟩
  case true =>
    refine wp_region_M (fun w' => Row w' w.heap.size 48 (uv f)) 8 (by kernel_rfl) ?_ (fun hHeld => ?_)
    · exact S0.out.p
    refine wpAnyM_take 0 (v := ?_) rfl (by kernel_rfl) (fun _ _ _ h => h) (Or.inl ⟨by rfl, ?_⟩) (by assumption) ?_
    rotate_left
    · (intro wx hSw; (try dsimp only at hSw); go_simp; (try with_reducible rfl))
    (try simp only [Act.put, nA, nB, nC])
    refine wpAnyM_take 1 (v := ?_) rfl (by kernel_rfl) (fun _ _ _ h => h) (Or.inl ⟨by rfl, ?_⟩) (by assumption) ?_
    rotate_left
    · (intro wx hSw; (try dsimp only at hSw); go_simp; (try with_reducible rfl))
    (try simp only [Act.put, nA, nB, nC])
    first | (refine wpAnyM_take 2 (v := ?_) rfl (by kernel_rfl) (fun _ _ _ h => h) (Or.inl ⟨by rfl, ?_⟩) (by assumption) ?_; rotate_left; focus ((intro wx hSw; refine Eq.trans (run_load_row 48 (.tmp 3) (by rfl) w.heap.size (by rfl) _ _ _ _ hSw Try.underlying48 rfl (iuv.trans (by rw [uv_size]))) ?_; with_reducible rfl))) | (refine wpAnyM_take 2 rfl (by kernel_rfl) (fun _ _ _ h => h) (Or.inr ⟨by rfl, rfl⟩) (by assumption) ?_)
    (try simp only [Act.put, nA, nB, nC])
    refine wpAnyM_take 6 (v := ?_) rfl (by kernel_rfl) (fun _ _ _ h => h) (Or.inl ⟨by rfl, ?_⟩) (by assumption) ?_
    rotate_left
    · (intro wx hSw; refine Eq.trans (run_load_row 48 (.tmp 3) (by rfl) w.heap.size (by rfl) _ _ _ _ hSw Try.underlying48 rfl (iuv.trans (by rw [uv_size]))) ?_; with_reducible rfl)
    (try simp only [Act.put, nA, nB, nC])
    refine wpAnyM_oneS 3 rfl (by kernel_rfl) (fun K hK => ?_)
    go_simp
    (refine (ZC.out _).mono ?_); rintro e w1 ⟨rfl, hb1⟩; have S1 := Lib.hid (S0.out.drew.down hb1)
    (try dsimp only)
    (try simp only [Act.put, nA, nB, nC])
    clear hHeld
    refine hK.out _ _ ?_ (fun hHeld => ?_)
    · exact S1.out.p
    clear hK K
    (try simp only [Act.put, nA, nB, nC])
    first | (refine wpAnyM_take 4 (v := ?_) rfl (by kernel_rfl) (fun _ _ _ h => h) (Or.inl ⟨by rfl, ?_⟩) (by assumption) ?_; rotate_left; focus ((intro wx hSw; (try dsimp only at hSw); go_simp; (try with_reducible rfl)))) | (refine wpAnyM_take 4 rfl (by kernel_rfl) (fun _ _ _ h => h) (Or.inr ⟨by rfl, rfl⟩) (by assumption) ?_)
    (try simp only [Act.put, nA, nB, nC])
    refine wpAnyM_take 5 (v := ?_) rfl (by kernel_rfl) (fun _ _ _ h => h) (Or.inl ⟨by rfl, ?_⟩) (by assumption) ?_
    rotate_left
    · (intro wx hSw; (try dsimp only at hSw); go_simp; (try with_reducible rfl))
    (try simp only [Act.put, nA, nB, nC])
    refine wpAnyM_take 7 (v := ?_) rfl (by kernel_rfl) (fun _ _ _ h => h) (Or.inl ⟨by rfl, ?_⟩) (by assumption) ?_
    rotate_left
    · (intro wx hSw; refine Eq.trans (run_build_bg (.tmp 10) (.tmp 11) (by rfl) (by rfl) (by rfl)) ?_; with_reducible rfl)
    (try simp only [Act.put, nA, nB, nC])
    refine wpAnyM_one 8 rfl (by kernel_rfl) (fun K hK => ?_)
    go_simp; rw [if_pos (bg_size _ _), run_storeCells_rowc _ S1.out.r (by rw [bg_size, bg_size]) (oneCell_bg _ _)]; go_simp
    refine hK.out _ _ (.inl (by kernel_rfl)) (fun _ => ?_)
    clear hK K
    (try simp only [Act.put, nA, nB, nC])
    refine wpAnyM_done (by kernel_rfl) ?_ _
    have r1 := S1.out.r.setRow (bg (!Z) f)
    have B1 : Below w.heap.size w (w1.setRow (w.heap.size + 1) (bg (!Z) f)) := below_row S1.out.below (by omega) _
    generalize w1.setRow (w.heap.size + 1) (bg (!Z) f) = W2 at *
    go_wp2_with fail
    refine bodyPost_ret (results_cell_row Try.results26 _ _ (w.heap.size + 1) 50 (bg (!Z) f) (0, 0) _ rfl r1 Try.underlying50 rfl (ibg.trans (by rw [bg_size]))) rfl ⟨rfl, B1⟩
end Go.Proofs.Ytpbgglkopfjagaa
/- Contracts of the reference's sizes (2): Of, Pow, less, minus. -/
namespace Go.Proofs.Ytpbgglkopfjagaa
open Go.RowKit
set_option maxRecDepth 100000
set_option maxHeartbeats 4000000 in
theorem bof_any (a : Int) (w : World) (a0 : -1152921504606846976 ≤ a) (a1 : a ≤ 1152921504606846976) :
    Calls Try.prog 9 #[.int .i64 a] w fun e w' => e = .returned (.agg (bg (decide (a < 0)) (d32 a.natAbs))) ∧ Below w.heap.size w w' := by
  have SC := Lib.hid (fun (x : World) => bsize_any a x a0 a1)
  obtain ⟨n, hn⟩ : ∃ x, a.natAbs = x := ⟨_, rfl⟩
  have hs : n < 18446744073709551616 := by omega
  have hb : (decide (a < 0) && !zerB (d32 n) 8) = decide (a < 0) := by
    rw [zerB_d32 n (Nat.lt_of_lt_of_le hs (by decide))]
    by_cases h : a < 0
    · have : n ≠ 0 := by omega
      simp [h, this]
    · simp [h]
  have MC := fun (x : World) => bmade_any (decide (a < 0)) (d32 n) x
  rw [hb] at MC
  have MC := Lib.hid MC
  rw [hn] at SC ⊢
  have fa := and_mask (n : Int) (by omega) (by omega)
  obtain ⟨n0, h0⟩ : ∃ x, n % 4294967296 = x := ⟨_, rfl⟩
  obtain ⟨n1, h1⟩ : ∃ x, n / 4294967296 = x := ⟨_, rfl⟩
  have fb : (n : Int) / 4294967296 = (n1 : Int) := by omega
  rw [show (n : Int) % 4294967296 = (n0 : Int) by omega] at fa
  have EU := Lib.hid (show uv (fun i => if i = 0 then n0 else if i = 1 then n1 else 0) = uv (d32 n) from uv_congr fun i _ => by rw [d32_low n hs, h0, h1])
  obtain ⟨b, hb2⟩ : ∃ x, decide (a < 0) = x := ⟨_, rfl⟩
  rw [hb2] at MC ⊢
  clear hb h0 h1 hn
  go_enter Try.func9, Try.ntmps9
  have S0 := Lib.hid (And.intro (show Row (w.alloc (.cells #[.bool false, .int .u64 0, .int .u64 0, .int .u64 0, .int .u64 0, .int .u64 0, .int .u64 0, .int .u64 0, .int .u64 0] 50)) w.heap.size 50 (bg false (fun _ => 0)) by rw [zbg]; exact Row.new w _ _) (show Below w.heap.size w (w.alloc (.cells #[.bool false, .int .u64 0, .int .u64 0, .int .u64 0, .int .u64 0, .int .u64 0, .int .u64 0, .int .u64 0, .int .u64 0] 50)) by (repeat (first | with_reducible exact Below.refl _ _ | with_reducible apply Below.drew | (with_reducible refine below_drewN ?_ _) | (with_reducible refine Below.alloc ?_ (by (try simp) <;> omega) _) | (with_reducible refine Below.setCell ?_ (by (try simp) <;> omega) _)))))
  go_upto_region 2 with (go_at_call 25; (refine (SC.out _).mono ?_); rintro e w1 ⟨rfl, rfl⟩)
  generalize w.alloc (.cells #[.bool false, .int .u64 0, .int .u64 0, .int .u64 0, .int .u64 0, .int .u64 0, .int .u64 0, .int .u64 0, .int .u64 0] 50) = W0 at *
  refine wp_region_lit ?_
  refine wpList_val (v := ?_) rfl ?_ ?_
  rotate_left
  · (go_simp; (try (first | with_reducible rfl | (constructor <;> with_reducible rfl))))
  (try simp only [Act.put, nA, nB, nC])
  refine wpList_val (v := ?_) rfl ?_ ?_
  rotate_left
  · (go_simp; (try rw [hb2]); (try with_reducible rfl))
  (try simp only [Act.put, nA, nB, nC])
  refine wpList_val (v := ?_) rfl ?_ ?_
  rotate_left
  · (go_simp; (try (first | with_reducible rfl | (constructor <;> with_reducible rfl))))
  (try simp only [Act.put, nA, nB, nC])
  refine wpList_val (v := ?_) rfl ?_ ?_
  rotate_left
  · (go_simp; (try rw [fa]); (try with_reducible rfl))
  (try simp only [Act.put, nA, nB, nC])
  refine wpList_val (v := ?_) rfl ?_ ?_
  rotate_left
  · (go_simp; (try (first | with_reducible rfl | (constructor <;> with_reducible rfl))))
  (try simp only [Act.put, nA, nB, nC])
  refine wpList_val (v := ?_) rfl ?_ ?_
  rotate_left
  · (go_simp; (try rw [fb]); (try with_reducible rfl))
  (try simp only [Act.put, nA, nB, nC])
  refine wpList_val (v := ?_) rfl ?_ ?_
  rotate_left
  · refine Eq.trans (run_build_uv2 (.tmp 9) (.tmp 11) (by rfl) (by rfl) (by rfl)) ?_; rw [EU.out]
  (try simp only [Act.put, nA, nB, nC])
  refine wpList_step (fun K hK => ?_)
  go_simp
  (refine (MC.out _).mono ?_); rintro e w2 ⟨rfl, hb3⟩; have R2 := Lib.hid (And.intro (S0.out.1.below hb3) (Below.after S0.out.2 hb3)); clear hb3
  (try dsimp only)
  (try simp only [Act.put, nA, nB, nC])
  refine hK _ _ ?_
  clear hK K
  refine wpList_done (w' := ?_) rfl ?_ ?_
  rotate_left
  · refine Eq.trans (run_store_rowc 50 (.tmp 2) (.tmp 13) (by rfl) w.heap.size (by rfl) (by rfl) R2.out.1 (by rw [bg_size, bg_size]) (oneCell_bg _ _) (ibg.trans (by rw [bg_size]))) ?_; with_reducible rfl
  (try simp only [Act.put, nA, nB, nC])
  refine wpList_nil ?_
  have r1 := R2.out.1.setRow (bg b (d32 n))
  have B1 : Below w.heap.size w (w2.setRow w.heap.size (bg b (d32 n))) := below_row R2.out.2 (Nat.le_refl _) _
  generalize w2.setRow w.heap.size (bg b (d32 n)) = W2 at *
  go_wp2_with fail
  refine bodyPost_ret (results_cell_row Try.results9 _ _ w.heap.size 50 (bg b (d32 n)) (0, 0) _ rfl r1 Try.underlying50 rfl (ibg.trans (by rw [bg_size]))) rfl ⟨rfl, B1⟩
/-- The blocks of two rows, the first one at the world's end. -/
structure TwB (f g : Nat → Nat) (w wr : World) : Prop where
  below : Below w.heap.size w wr
  a : Row wr w.heap.size 48 (uv f)
  b : Row wr (w.heap.size + 1) 48 (uv g)
theorem TwB.down {f g : Nat → Nat} {w wr w' : World} (s : TwB f g w wr) (k : Below wr.heap.size wr w') : TwB f g w w' := ⟨s.below.trans (k.mono s.below.size), s.a.below k, s.b.below k⟩
theorem TwB.drews {f g : Nat → Nat} {w wr : World} (s : TwB f g w wr) (n : Nat) : TwB f g w (wr.drewN n) := s.down (below_drewN (Below.refl _ _) n)
set_option maxHeartbeats 4000000 in
theorem bless_any (M N : Nat) (w : World) (hM : M < 115792089237316195423570985008687907853269984665640564039457584007913129639936) (hN : N < 115792089237316195423570985008687907853269984665640564039457584007913129639936) :
    Calls Try.prog 50 #[.agg (uv (d32 M)), .agg (uv (d32 N))] w fun e w' => e = .returned (.bool (decide (M < N))) ∧ Below w.heap.size w w' := by
  have S0 := Lib.hid (show TwB (d32 M) (d32 N) w ((w.alloc (.cells (uv (d32 M)) 48)).alloc (.cells (uv (d32 N)) 48)) from ⟨by (repeat (first | with_reducible exact Below.refl _ _ | with_reducible apply Below.drew | (with_reducible refine below_drewN ?_ _) | (with_reducible refine Below.alloc ?_ (by (try simp) <;> omega) _) | (with_reducible refine Below.setCell ?_ (by (try simp) <;> omega) _))), (Row.new w _ _).alloc _, Row.new1 w _ _ _⟩)
  have h8 := Lib.hid (show M / 2 ^ (32 * 8) = N / 2 ^ (32 * 8) by rw [Nat.div_eq_of_lt (show M < 2 ^ (32 * 8) from hM), Nat.div_eq_of_lt (show N < 2 ^ (32 * 8) from hN)])
  clear hM hN
  go_enter Try.func50, Try.ntmps50
  go_upto_region 1 with fail
  generalize (w.alloc (.cells (uv (d32 M)) 48)).alloc (.cells (uv (d32 N)) 48) = W0 at *
  go_wp2_with fail
  go_loopw [5] (fun v wr => ∃ (j : Nat) (x : Int), j ≤ 8 ∧ x = (j : Int) - 1 ∧ v = .int .i64 x ∧ Hid (M / 2 ^ (32 * j) = N / 2 ^ (32 * j) ∧ TwB (d32 M) (d32 N) w wr)) (fun v _ => (intOf v + 1).toNat)
  case atStart => exact ⟨8, 7, by omega, by omega, rfl, Lib.hid ⟨h8.out, S0.out⟩⟩
  case round =>
    obtain ⟨j, x, hj, hx, rfl, T⟩ := hrel
    clear S0 h8
    cases j with
    | zero =>
      have g1 : decide (0 ≤ x) = false := by simp; omega
      have NO := Lib.hid (show decide (M < N) = false by
        have h := T.out.1
        simp only [Nat.mul_zero, Nat.pow_zero, Nat.div_one] at h
        rw [h]; simp)
      go_wp2_with fail
      go_ret
      exact ⟨by rw [NO.out]; rfl, T.out.2.below⟩
    | succ m =>
      obtain rfl : x = (m : Int) := by omega
      have m0 : (0 : Int) ≤ (m : Int) := Int.natCast_nonneg _
      have m8 : (m : Int) < 8 := by omega
      have g1 : decide (0 ≤ (m : Int)) = true := by simp
      have ra := T.out.2.a.part (i := m) (by omega)
      have rb := T.out.2.b.part (i := m) (by omega)
      have LT := Lib.hid (fun (h : d32 M m < d32 N m) => d32_lt T.out.1 h)
      have GT := Lib.hid (fun (h : d32 N m < d32 M m) => d32_lt T.out.1.symm h)
      have EQ := Lib.hid (fun (h : d32 M m = d32 N m) => d32_eq T.out.1 h)
      obtain ⟨dm, hdm⟩ : ∃ x, d32 M m = x := ⟨_, rfl⟩
      obtain ⟨dn, hdn⟩ : ∃ x, d32 N m = x := ⟨_, rfl⟩
      rw [hdm] at ra LT GT EQ
      rw [hdn] at rb LT GT EQ
      have HT := Lib.hid T.out.2
      clear hdm hdn T hj hx
      go_upto_region 4 with fail
      by_cases he : dm = dn
      · subst he
        have q1 : ((dm : Int) != (dm : Int)) = false := by simp
        have ENE := Lib.hid (EQ.out rfl)
        clear EQ LT GT
        go_quiet (fail)
        go_wp2_with fail
        go_roundw
        case rel => exact ⟨m, (m : Int) - 1, by omega, rfl, by go_num, Lib.hid ⟨ENE.out, HT.out.drews _⟩⟩
        case measure => simp [intOf]
      · have q1 : ((dm : Int) != (dn : Int)) = true := by simp; omega
        have q2 : decide (dm < dn) = decide (M < N) := by
          rw [decide_eq_decide]
          rcases Nat.lt_or_gt_of_ne he with h | h
          · have := LT.out h; omega
          · have := GT.out h; omega
        clear EQ LT GT he
        go_quiet (fail)
        go_upto_region 5 with fail
        have ra2 : (wr.drewN 1).cell? ⟨w.heap.size, m, none⟩ = some (.int .u64 (dm : Int)) := ra
        have rb2 : (wr.drewN 1).cell? ⟨w.heap.size + 1, m, none⟩ = some (.int .u64 (dn : Int)) := rb
        go_quiet (fail)
        go_wp2_with fail
        go_ret
        exact ⟨by rw [← q2]; rfl, ((HT.out.drews _).drews _).below⟩
end Go.Proofs.Ytpbgglkopfjagaa
/- Contracts of the reference's sizes (3): minus, Mul. -/
namespace Go.Proofs.Ytpbgglkopfjagaa
open Go.RowKit
set_option maxRecDepth 100000
/-- The blocks of 'minus'. -/
structure MnB (f g h : Nat → Nat) (w wr : World) : Prop where
  below : Below w.heap.size w wr
  a : Row wr w.heap.size 48 (uv f)
  b : Row wr (w.heap.size + 1) 48 (uv g)
  r : Row wr (w.heap.size + 1 + 1) 48 (uv h)
theorem MnB.down {f g h : Nat → Nat} {w wr w' : World} (s : MnB f g h w wr) (k : Below wr.heap.size wr w') : MnB f g h w w' := ⟨s.below.trans (k.mono s.below.size), s.a.below k, s.b.below k, s.r.below k⟩
theorem MnB.drews {f g h : Nat → Nat} {w wr : World} (s : MnB f g h w wr) (n : Nat) : MnB f g h w (wr.drewN n) := s.down (below_drewN (Below.refl _ _) n)
theorem MnB.set {f g h : Nat → Nat} {w wr : World} (s : MnB f g h w wr) (i v : Nat) : MnB (updN f i v) g h w (wr.setCell ⟨w.heap.size, i, none⟩ (.int .u64 ((v : Nat) : Int))) :=
  ⟨s.below.setCell (by simp) _, s.a.setU i v, s.b.other (by simp) _, s.r.other (by simp; omega) _⟩
theorem MnB.congrA {f f' g h : Nat → Nat} {w wr : World} (s : MnB f g h w wr) (e : ∀ i, i < 8 → f i = f' i) : MnB f' g h w wr := ⟨s.below, by rw [← uv_congr e]; exact s.a, s.b, s.r⟩
def mnF (M N k : Nat) : Nat → Nat := fun i => if i < k then d32 (M - N) i else d32 M i
theorem mnF_succ (M N k : Nat) (i : Nat) : updN (mnF M N k) k (d32 (M - N) k) i = mnF M N (k + 1) i := by
  unfold updN mnF
  by_cases h : i = k
  · subst h; rw [if_pos rfl, if_pos (by omega)]
  · rw [if_neg h]
    by_cases h2 : i < k
    · rw [if_pos h2, if_pos (by omega)]
    · rw [if_neg h2, if_neg (by omega)]
/-- The machine's difference of parts, its low half and its top bit. -/
theorem mn_step {a b c r c' : Nat} (ha : a < 4294967296) (hb : b < 4294967296) (hc : c ≤ 1) (hr : r = if a < b + c then a + 4294967296 - b - c else a - b - c) (hc' : c' = if a < b + c then 1 else 0) :
    ∃ x d : Nat, IntKind.u64.wrap ((a : Int) - (b : Int)) = (x : Int) ∧ IntKind.u64.wrap ((x : Int) - (c : Int)) = (d : Int) ∧ d < 18446744073709551616 ∧ d % 4294967296 = r ∧ d / 9223372036854775808 = c' := by
  refine ⟨if b ≤ a then a - b else a + 18446744073709551616 - b, if b + c ≤ a then a - b - c else a + 18446744073709551616 - b - c, ?_, ?_, ?_, ?_, ?_⟩
  · rw [IntKind.wrap_u64]; split <;> omega
  · rw [IntKind.wrap_u64]; split <;> split <;> omega
  · split <;> omega
  · rw [hr]; split <;> split <;> omega
  · rw [hc']; split <;> split <;> omega
set_option maxHeartbeats 4000000 in
theorem bminus_any (M N : Nat) (w : World) (hNM : N ≤ M) :
    Calls Try.prog 51 #[.agg (uv (d32 M)), .agg (uv (d32 N))] w fun e w' => e = .returned (.agg (uv (d32 (M - N)))) ∧ Below w.heap.size w w' := by
  have S0 := Lib.hid (show MnB (d32 M) (d32 N) (fun _ => 0) w (((w.alloc (.cells (uv (d32 M)) 48)).alloc (.cells (uv (d32 N)) 48)).alloc (.cells #[.int .u64 0, .int .u64 0, .int .u64 0, .int .u64 0, .int .u64 0, .int .u64 0, .int .u64 0, .int .u64 0] 48)) from ⟨by (repeat (first | with_reducible exact Below.refl _ _ | with_reducible apply Below.drew | (with_reducible refine below_drewN ?_ _) | (with_reducible refine Below.alloc ?_ (by (try simp) <;> omega) _) | (with_reducible refine Below.setCell ?_ (by (try simp) <;> omega) _))), ((Row.new w _ _).alloc _).alloc _, (Row.new1 w _ _ _).alloc _, by rw [zuv]; exact Row.new2 w _ _ _ _⟩)
  have HN := Lib.hid hNM
  clear hNM
  go_enter Try.func51, Try.ntmps51
  go_upto_region 1 with fail
  generalize ((w.alloc (.cells (uv (d32 M)) 48)).alloc (.cells (uv (d32 N)) 48)).alloc (.cells #[.int .u64 0, .int .u64 0, .int .u64 0, .int .u64 0, .int .u64 0, .int .u64 0, .int .u64 0, .int .u64 0] 48) = W0 at *
  go_wp2_with fail
  go_loopw [5, 6] (fun c i wr => ∃ k : Nat, k ≤ 8 ∧ c = .int .u64 ((brw M N k : Nat) : Int) ∧ i = .int .i64 k ∧ Hid (MnB (mnF M N k) (d32 N) (fun _ => 0) w wr)) (fun _ i _ => 8 - (intOf i).toNat)
  case atStart => exact ⟨0, by omega, by rw [brw_0]; rfl, rfl, Lib.hid (by rw [show mnF M N 0 = d32 M from by funext i; unfold mnF; rw [if_neg (by omega)]]; exact S0.out)⟩
  case round =>
    obtain ⟨k, hk, rfl, rfl, R⟩ := hrel
    clear S0
    by_cases hlt : k < 8
    · have g1 : decide ((k : Int) < 8) = true := by simp; omega
      have k0 : (0 : Int) ≤ (k : Int) := Int.natCast_nonneg _
      have k1 : (k : Int) < 8 := by omega
      have ra := R.out.a.part hlt
      rw [show mnF M N k k = d32 M k from by unfold mnF; rw [if_neg (by omega)]] at ra
      have rb := R.out.b.part hlt
      have rf := R.out.a.free k
      have sa := sub_at M N k HN.out
      have sc := brw_succ M N k
      obtain ⟨x, d, e1, e2, hd, e3, e4⟩ := mn_step (d32_bd M k) (d32_bd N k) (brw_le M N k) sa sc
      have fa := and_mask (d : Int) (by omega) (by omega)
      have ES := Lib.hid (mnF_succ M N k)
      obtain ⟨q, hq⟩ : ∃ x, d32 (M - N) k = x := ⟨_, rfl⟩
      obtain ⟨z, hz⟩ : ∃ x, brw M N (k + 1) = x := ⟨_, rfl⟩
      rw [hq] at e3 ES
      rw [hz] at e4
      have HZ := Lib.hid hz
      rw [show (d : Int) % 4294967296 = (q : Int) by omega] at fa
      have fb : (d : Int) / 9223372036854775808 = (z : Int) := by omega
      obtain ⟨a, haa⟩ : ∃ x, d32 M k = x := ⟨_, rfl⟩
      obtain ⟨b, hbb⟩ : ∃ x, d32 N k = x := ⟨_, rfl⟩
      obtain ⟨c, hcc⟩ : ∃ x, brw M N k = x := ⟨_, rfl⟩
      rw [haa] at ra e1
      rw [hbb] at rb e1
      rw [hcc] at e2 ⊢
      clear sa sc hq hz haa hbb hcc e3 e4 hd
      go_upto_region 5 with fail
      go_quiet (fail)
      go_upto_region 6 with fail
      have R2 := Lib.hid (R.out.drews nq)
      have rf2 : (wr.drewN nq).frozen? ⟨w.heap.size, k, none⟩ = false := rf
      have ra2 : (wr.drewN nq).cell? ⟨w.heap.size, k, none⟩ = some (.int .u64 (a : Int)) := ra
      generalize wr.drewN nq = W2 at *
      go_wp2_with fail
      go_roundw
      case rel => exact ⟨k + 1, by omega, by rw [HZ.out], by go_num, Lib.hid ((R2.out.set k q).congrA (fun i _ => ES.out i))⟩
      case measure => simp [intOf]; omega
    · have g1 : decide ((k : Int) < 8) = false := by simp; omega
      have hk8 : k = 8 := by omega
      subst hk8
      have RA := R.out.a
      have e8 : uv (mnF M N 8) = uv (d32 (M - N)) := uv_congr fun i hi => by unfold mnF; rw [if_pos hi]
      rw [e8] at RA
      have RR := R.out.r
      go_upto_region 8 with fail
      refine wp_region_lit ?_
      refine wpList_val (v := ?_) rfl ?_ ?_
      rotate_left
      · refine Eq.trans (run_load_row 48 (.tmp 2) (by rfl) w.heap.size (by rfl) _ _ _ _ RA Try.underlying48 rfl (iuv.trans (by rw [uv_size]))) ?_; with_reducible rfl
      (try simp only [Act.put, nA, nB, nC])
      refine wpList_done (w' := ?_) rfl ?_ ?_
      rotate_left
      · refine Eq.trans (run_store_rowc 48 (.tmp 4) (.tmp 27) (by rfl) (w.heap.size + 1 + 1) (by rfl) (by rfl) RR (by rw [uv_size, uv_size]) (oneCell_uv _) (iuv.trans (by rw [uv_size]))) ?_; with_reducible rfl
      (try simp only [Act.put, nA, nB, nC])
      refine wpList_nil ?_
      have r1 := RR.setRow (uv (d32 (M - N)))
      have B1 : Below w.heap.size w (wr.setRow (w.heap.size + 1 + 1) (uv (d32 (M - N)))) := below_row R.out.below (by omega) _
      generalize wr.setRow (w.heap.size + 1 + 1) (uv (d32 (M - N))) = W2 at *
      go_wp2_with fail
      refine bodyPost_ret (results_cell_row Try.results51 _ _ (w.heap.size + 1 + 1) 48 (uv (d32 (M - N))) (0, 0) _ rfl r1 Try.underlying48 rfl (iuv.trans (by rw [uv_size]))) rfl ⟨rfl, B1⟩
end Go.Proofs.Ytpbgglkopfjagaa
