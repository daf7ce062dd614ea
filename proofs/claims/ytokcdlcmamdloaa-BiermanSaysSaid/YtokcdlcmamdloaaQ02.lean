/- Contracts of the program's functions and plain laws, part 2: they hold for all arguments. -/
import Derived.Test.YtokcdlcmamdloaaProg
import Derived.Test.YtokcdlcmamdloaaQ01
import Derived.Outline
import Derived.BigRegion
import Derived.BigQuiet
import Derived.Deep.QuietTactic
import Derived.Deep.RegionHeld3
/- Contracts of package wide. -/
/- Contracts of package wide (2). -/
/- Contracts of package wide (3). -/
namespace Go.Proofs.Ytokcdlcmamdloaa
open Go.RowKit

theorem not64 (x : Int) (h0 : 0 ≤ x) (h1 : x < 18446744073709551616) : bits .xor .u64 IntKind.u64.max x = nt x := by
  obtain ⟨a, rfl⟩ := Int.eq_ofNat_of_zero_le h0
  show IntKind.u64.wrap ((BitVec.ofInt 64 IntKind.u64.max ^^^ BitVec.ofInt 64 (a : Int)).toNat : Int) = _
  have h1 : BitVec.ofInt 64 IntKind.u64.max = BitVec.allOnes 64 := by decide
  rw [h1, BitVec.allOnes_xor, BitVec.toNat_not, ofInt_u64 a (by omega), IntKind.wrap_u64]
  unfold nt
  omega
theorem add64 (x y c : Int) (hx : 0 ≤ x) (hy : 0 ≤ y) (hc0 : 0 ≤ c) (hc : c ≤ 1) (w : World) : (callFunc 87 #[.int .u64 x, .int .u64 y, .int .u64 c]).run Try.prog w =
    .ok (.value (.tuple #[.int .u64 (lo64 (x + y + c)), .int .u64 (hi64 (x + y + c))])) w := by
  rw [run_callFunc_extern Try.func87 (by kernel_rfl) (by kernel_rfl) (by kernel_rfl) (e := add64Entry) (by kernel_rfl), run_add64 x y c hx hy hc0 hc]
  rfl
theorem add64_0 (x y : Int) (hx : 0 ≤ x) (hy : 0 ≤ y) (w : World) : (callFunc 87 #[.int .u64 x, .int .u64 y, .int .u64 0]).run Try.prog w =
    .ok (.value (.tuple #[.int .u64 (lo64 (x + y)), .int .u64 (hi64 (x + y))])) w := by
  simpa using add64 x y 0 hx hy (Int.le_refl 0) (by decide) w

theorem abs64_any (a : Int) (w : World) (h1 : -9223372036854775808 ≤ a) (h2 : a < 9223372036854775808) :
    Calls Try.prog 75 #[.int .i64 a] w fun e w' => e = .returned (.int .u64 (a.natAbs : Int)) ∧ w = w' := by
  by_cases h : a < 0
  · go_enter Try.func75, Try.ntmps75
    go_wp2
    go_ret
    exact ⟨retI (by simp only [IntKind.wrap_u64]; omega), rfl⟩
  · go_enter Try.func75, Try.ntmps75
    go_wp2
    go_ret
    exact ⟨retI (by omega), rfl⟩


set_option maxRecDepth 100000
theorem signed_pos (x y : Int) (w : World) (x0 : 0 ≤ x) (x1 : x < 9223372036854775808) :
    Calls Try.prog 76 #[.agg #[.int .u64 x, .int .u64 y], .bool false] w fun e w' =>
      e = .returned (.tuple #[.agg #[.int .i64 x, .int .u64 y], .bool true]) ∧ Below w.heap.size w w' := by
  have hd : ((x / 9223372036854775808 : Int) == 0) = true := by rw [beq_iff_eq]; omega
  go_enter Try.func76, Try.ntmps76
  go_wp2_with fail
  go_region
  go_wp2
  refine bodyPost_ret (v := .tuple #[.agg #[.int .i64 x, .int .u64 y], .bool true]) (by simp [results, Try.results76, go_sem]) rfl ⟨rfl, ?_⟩
  (repeat (first | with_reducible exact Below.refl _ _ | with_reducible apply Below.drew | (with_reducible refine below_drewN ?_ _) | (with_reducible refine Below.alloc ?_ (by (try simp) <;> omega) _) | (with_reducible refine Below.setCell ?_ (by (try simp) <;> omega) _)))

theorem neg_parts (x y : Int) (x0 : 0 ≤ x) (x1 : x < 9223372036854775808) (y0 : 0 ≤ y) (y1 : y < 18446744073709551616) :
    wrap64 (IntKind.u64.wrap (nt x + hi64 (nt y + 1))) = hi64 (-(x * B64 + y)) ∧ lo64 (nt y + 1) = lo64 (-(x * B64 + y)) := by
  simp only [IntKind.wrap_u64, wrap64]
  unfold hi64 lo64 nt B64
  omega

theorem signed_neg (x y : Int) (w : World) (x0 : 0 ≤ x) (x1 : x < 9223372036854775808) (y0 : 0 ≤ y) (y1 : y < 18446744073709551616) :
    Calls Try.prog 76 #[.agg #[.int .u64 x, .int .u64 y], .bool true] w fun e w' =>
      e = .returned (.tuple #[.agg #[.int .i64 (hi64 (-(x * B64 + y))), .int .u64 (lo64 (-(x * B64 + y)))], .bool true]) ∧ Below w.heap.size w w' := by
  have n1 := not64 y y0 y1
  have n2 := not64 x x0 (by omega)
  have b1 := (nt_bd y0 y1).1
  have a1 := fun w => add64_0 (nt y) 1 b1 (by decide) w
  obtain ⟨e1, e2⟩ := neg_parts x y x0 x1 y0 y1
  by_cases hz : x = 0 ∧ y = 0
  · obtain ⟨rfl, rfl⟩ := hz
    have z1 : decide (hi64 0 < 0) = false := by simp [hi64]
    go_enter Try.func76, Try.ntmps76
    go_wp2_with fail
    go_region
    go_wp2
    refine bodyPost_ret (v := .tuple #[.agg #[.int .i64 (hi64 0), .int .u64 (lo64 0)], .bool true]) (by simp [results, Try.results76, go_sem]) rfl ⟨by simp, ?_⟩
    (repeat (first | with_reducible exact Below.refl _ _ | with_reducible apply Below.drew | (with_reducible refine below_drewN ?_ _) | (with_reducible refine Below.alloc ?_ (by (try simp) <;> omega) _) | (with_reducible refine Below.setCell ?_ (by (try simp) <;> omega) _)))
  · have z1 : hi64 (-(x * B64 + y)) < 0 := by unfold hi64 B64; omega
    clear y0 y1
    go_enter Try.func76, Try.ntmps76
    go_wp2_with fail
    go_region
    go_wp2
    refine bodyPost_ret (v := .tuple #[.agg #[.int .i64 (hi64 (-(x * B64 + y))), .int .u64 (lo64 (-(x * B64 + y)))], .bool true]) (by simp [results, Try.results76, go_sem]) rfl ⟨rfl, ?_⟩
    (repeat (first | with_reducible exact Below.refl _ _ | with_reducible apply Below.drew | (with_reducible refine below_drewN ?_ _) | (with_reducible refine Below.alloc ?_ (by (try simp) <;> omega) _) | (with_reducible refine Below.setCell ?_ (by (try simp) <;> omega) _)))

end Go.Proofs.Ytokcdlcmamdloaa
namespace Go.Proofs.Ytokcdlcmamdloaa
open Go.RowKit
set_option maxRecDepth 100000
/-- A W. -/
def Wv (x : Int) : Value := .agg #[.int .i64 (hi64 x), .int .u64 (lo64 x)]

theorem abs_pos (x y : Int) (w : World) (x0 : 0 ≤ x) (x1 : x < 9223372036854775808) :
    Calls Try.prog 84 #[.agg #[.int .i64 x, .int .u64 y]] w fun e w' =>
      e = .returned (.tuple #[.agg #[.int .u64 x, .int .u64 y], .bool false]) ∧ Below w.heap.size w w' := by
  go_enter Try.func84, Try.ntmps84
  go_wp2_with fail
  simp [bodyPost, results, Try.results84, go_sem]
  (repeat (first | with_reducible exact Below.refl _ _ | with_reducible apply Below.drew | (with_reducible refine below_drewN ?_ _) | (with_reducible refine Below.alloc ?_ (by (try simp) <;> omega) _) | (with_reducible refine Below.setCell ?_ (by (try simp) <;> omega) _)))
theorem abs_neg (x y : Int) (w : World) (x0 : x < 0) (x1 : -9223372036854775808 ≤ x) (y0 : 0 ≤ y) (y1 : y < 18446744073709551616) :
    Calls Try.prog 84 #[.agg #[.int .i64 x, .int .u64 y]] w fun e w' =>
      e = .returned (.tuple #[.agg #[.int .u64 (hi64 (-(x * B64 + y))), .int .u64 (lo64 (-(x * B64 + y)))], .bool true]) ∧ Below w.heap.size w w' := by
  have n1 := not64 y y0 y1
  have n2 := not64 (IntKind.u64.wrap x) (by simp only [IntKind.wrap_u64]; omega) (by simp only [IntKind.wrap_u64]; omega)
  have b1 := (nt_bd y0 y1).1
  have a1 := fun w => add64_0 (nt y) 1 b1 (by decide) w
  have hy : 0 ≤ y ∧ y < B64 := ⟨y0, y1⟩
  clear y0 y1
  go_enter Try.func84, Try.ntmps84
  go_wp2_with fail
  simp [bodyPost, results, Try.results84, go_sem]
  refine ⟨?_, ?_⟩
  · simp only [IntKind.wrap_u64]
    unfold hi64 lo64 nt B64
    clear n1 n2 b1 a1
    obtain ⟨y0, y1⟩ := hy
    unfold B64 at y1
    omega
  · (repeat (first | with_reducible exact Below.refl _ _ | with_reducible apply Below.drew | (with_reducible refine below_drewN ?_ _) | (with_reducible refine Below.alloc ?_ (by (try simp) <;> omega) _) | (with_reducible refine Below.setCell ?_ (by (try simp) <;> omega) _)))

end Go.Proofs.Ytokcdlcmamdloaa
namespace Go.Proofs.Ytokcdlcmamdloaa
open Go.RowKit
set_option maxRecDepth 100000
def s64F (x y : Int) (neg : Bool) : Bool := decide (x = 0) && (if neg then decide (y ≤ 9223372036854775808) else decide (y ≤ 9223372036854775807))
def s64V (x y : Int) (neg : Bool) : Int := if s64F x y neg then (if neg then -y else y) else 0
theorem s64_big {x y : Int} {neg : Bool} (h : ¬ x = 0) : s64F x y neg = false ∧ s64V x y neg = 0 := by
  have : s64F x y neg = false := by simp [s64F, h]
  exact ⟨this, by simp [s64V, this]⟩
theorem s64_in {y : Int} {neg : Bool} (h : y < 9223372036854775808) : s64F 0 y neg = true ∧ s64V 0 y neg = if neg then -y else y := by
  have : s64F 0 y neg = true := by cases neg <;> simp [s64F] <;> omega
  exact ⟨this, by simp [s64V, this]⟩
theorem s64_out {y : Int} {neg : Bool} (h : 9223372036854775808 < y) : s64F 0 y neg = false ∧ s64V 0 y neg = 0 := by
  have : s64F 0 y neg = false := by cases neg <;> simp [s64F] <;> omega
  exact ⟨this, by simp [s64V, this]⟩

theorem signed64_any (x y : Int) (neg : Bool) (w : World) (y0 : 0 ≤ y) (y1 : y < 18446744073709551616) :
    Calls Try.prog 86 #[.agg #[.int .u64 x, .int .u64 y], .bool neg] w fun e w' =>
      e = .returned (.tuple #[.int .i64 (s64V x y neg), .bool (s64F x y neg)]) ∧ Below w.heap.size w w' := by
  by_cases hx : x = 0
  · subst hx
    by_cases h1 : y < 9223372036854775808
    · obtain ⟨e1, e2⟩ := s64_in (neg := neg) h1
      rw [e1, e2]
      clear e1 e2
      cases neg
      · have h2 : ¬ 9223372036854775807 < y := by omega
        go_enter Try.func86, Try.ntmps86
        go_wp2
        simp [bodyPost, results, Try.results86, go_sem]
        (repeat (first | with_reducible exact Below.refl _ _ | with_reducible apply Below.drew | (with_reducible refine below_drewN ?_ _) | (with_reducible refine Below.alloc ?_ (by (try simp) <;> omega) _) | (with_reducible refine Below.setCell ?_ (by (try simp) <;> omega) _)))
      · have h2 : ¬ 9223372036854775808 < y := by omega
        go_enter Try.func86, Try.ntmps86
        go_wp2
        simp [bodyPost, results, Try.results86, go_sem]
        refine ⟨?_, ?_⟩
        · simp only [IntKind.wrap_u64, wrap64]; omega
        · (repeat (first | with_reducible exact Below.refl _ _ | with_reducible apply Below.drew | (with_reducible refine below_drewN ?_ _) | (with_reducible refine Below.alloc ?_ (by (try simp) <;> omega) _) | (with_reducible refine Below.setCell ?_ (by (try simp) <;> omega) _)))
    · by_cases h3 : 9223372036854775808 < y
      · obtain ⟨e1, e2⟩ := s64_out (neg := neg) h3
        rw [e1, e2]
        clear e1 e2
        cases neg
        · have h2 : 9223372036854775807 < y := by omega
          go_enter Try.func86, Try.ntmps86
          go_wp2
          simp [bodyPost, results, Try.results86, go_sem]
          (repeat (first | with_reducible exact Below.refl _ _ | with_reducible apply Below.drew | (with_reducible refine below_drewN ?_ _) | (with_reducible refine Below.alloc ?_ (by (try simp) <;> omega) _) | (with_reducible refine Below.setCell ?_ (by (try simp) <;> omega) _)))
        · go_enter Try.func86, Try.ntmps86
          go_wp2
          simp [bodyPost, results, Try.results86, go_sem]
          (repeat (first | with_reducible exact Below.refl _ _ | with_reducible apply Below.drew | (with_reducible refine below_drewN ?_ _) | (with_reducible refine Below.alloc ?_ (by (try simp) <;> omega) _) | (with_reducible refine Below.setCell ?_ (by (try simp) <;> omega) _)))
      · have h4 : y = 9223372036854775808 := by omega
        subst h4
        cases neg
        · have e1 : s64F 0 9223372036854775808 false = false := by decide
          have e2 : s64V 0 9223372036854775808 false = 0 := by decide
          rw [e1, e2]
          clear e1 e2
          go_enter Try.func86, Try.ntmps86
          go_wp2
          simp [bodyPost, results, Try.results86, go_sem]
          (repeat (first | with_reducible exact Below.refl _ _ | with_reducible apply Below.drew | (with_reducible refine below_drewN ?_ _) | (with_reducible refine Below.alloc ?_ (by (try simp) <;> omega) _) | (with_reducible refine Below.setCell ?_ (by (try simp) <;> omega) _)))
        · have e1 : s64F 0 9223372036854775808 true = true := by decide
          have e2 : s64V 0 9223372036854775808 true = -9223372036854775808 := by decide
          rw [e1, e2]
          clear e1 e2
          go_enter Try.func86, Try.ntmps86
          go_wp2
          simp [bodyPost, results, Try.results86, go_sem]
          refine ⟨?_, ?_⟩
          · simp only [IntKind.wrap_u64, wrap64]; omega
          · (repeat (first | with_reducible exact Below.refl _ _ | with_reducible apply Below.drew | (with_reducible refine below_drewN ?_ _) | (with_reducible refine Below.alloc ?_ (by (try simp) <;> omega) _) | (with_reducible refine Below.setCell ?_ (by (try simp) <;> omega) _)))
  · obtain ⟨e1, e2⟩ := s64_big (y := y) (neg := neg) hx
    rw [e1, e2]
    clear e1 e2
    have hx' : (x == 0) = false := by simpa using hx
    go_enter Try.func86, Try.ntmps86
    go_wp2
    simp [bodyPost, results, Try.results86, go_sem]
    (repeat (first | with_reducible exact Below.refl _ _ | with_reducible apply Below.drew | (with_reducible refine below_drewN ?_ _) | (with_reducible refine Below.alloc ?_ (by (try simp) <;> omega) _) | (with_reducible refine Below.setCell ?_ (by (try simp) <;> omega) _)))
end Go.Proofs.Ytokcdlcmamdloaa
/- Contracts of package wide (4): shifts and sums of sizes. -/
namespace Go.Proofs.Ytokcdlcmamdloaa
open Go.RowKit
set_option maxRecDepth 100000

theorem pow_split (s : Nat) (h : s < 64) : 2 ^ s * 2 ^ (64 - s) = 18446744073709551616 := by
  rw [← Nat.pow_add, show s + (64 - s) = 64 from by omega]
theorem shr_hi_eq (x y s : Nat) (_h : s < 64) (_hy : y < 18446744073709551616) : (x * 18446744073709551616 + y) / 2 ^ s / 18446744073709551616 = x / 2 ^ s := by
  rw [Nat.div_div_eq_div_mul, Nat.mul_comm (2 ^ s), ← Nat.div_div_eq_div_mul]
  rw [show (x * 18446744073709551616 + y) / 18446744073709551616 = x from by omega]
theorem shr_lo_eq (x y s : Nat) (h : s < 64) (hy : y < 18446744073709551616) :
    (x * 18446744073709551616 + y) / 2 ^ s % 18446744073709551616 = (x * 2 ^ (64 - s) % 18446744073709551616) ||| (y / 2 ^ s) := by
  have hp : 0 < 2 ^ s := Nat.two_pow_pos s
  have e := pow_split s h
  have e1 : (x * 18446744073709551616 + y) / 2 ^ s = x * 2 ^ (64 - s) + y / 2 ^ s := by
    rw [← e, show x * (2 ^ s * 2 ^ (64 - s)) + y = 2 ^ s * (x * 2 ^ (64 - s)) + y from by rw [Nat.mul_left_comm], Nat.mul_add_div hp]
  have e2 : x * 2 ^ (64 - s) % 18446744073709551616 = 2 ^ (64 - s) * (x % 2 ^ s) := by
    rw [← e, Nat.mul_mod_mul_right, Nat.mul_comm]
  have e3 : y / 2 ^ s < 2 ^ (64 - s) := by
    rw [Nat.div_lt_iff_lt_mul hp, Nat.mul_comm, e]; exact hy
  rw [e1, Nat.add_mod, e2, Nat.mod_eq_of_lt (a := y / 2 ^ s) (by have : 2 ^ (64 - s) ≤ 18446744073709551616 := by rw [← e]; exact Nat.le_mul_of_pos_left _ hp
                                                                 omega)]
  rw [Nat.two_pow_add_eq_or_of_lt e3]
  apply Nat.mod_eq_of_lt
  rw [← Nat.two_pow_add_eq_or_of_lt e3]
  have h1 : x % 2 ^ s + 1 ≤ 2 ^ s := Nat.mod_lt _ hp
  calc 2 ^ (64 - s) * (x % 2 ^ s) + y / 2 ^ s < 2 ^ (64 - s) * (x % 2 ^ s) + 2 ^ (64 - s) := by omega
    _ = 2 ^ (64 - s) * (x % 2 ^ s + 1) := by rw [Nat.mul_add, Nat.mul_one]
    _ ≤ 2 ^ (64 - s) * 2 ^ s := Nat.mul_le_mul_left _ h1
    _ = 18446744073709551616 := by rw [Nat.mul_comm]; exact e

theorem bits_or_u64 (a b : Int) (ha0 : 0 ≤ a) (ha : a < 18446744073709551616) (hb0 : 0 ≤ b) (hb : b < 18446744073709551616) :
    bits .or .u64 a b = ((a.toNat ||| b.toNat : Nat) : Int) := by
  obtain ⟨a, rfl⟩ := Int.eq_ofNat_of_zero_le ha0
  obtain ⟨b, rfl⟩ := Int.eq_ofNat_of_zero_le hb0
  exact bits_or_u64_nat a b (by omega) (by omega)
theorem toNat_div_pow (y : Int) (k : Nat) (h : 0 ≤ y) : (y / 2 ^ k).toNat = y.toNat / 2 ^ k := by
  obtain ⟨y, rfl⟩ := Int.eq_ofNat_of_zero_le h
  have : ((y : Int) / 2 ^ k) = ((y / 2 ^ k : Nat) : Int) := by simp
  rw [this, Int.toNat_natCast, Int.toNat_natCast]
theorem div_pow_bd (y : Int) (k : Nat) (h : 0 ≤ y) (h1 : y < 18446744073709551616) : 0 ≤ y / 2 ^ k ∧ y / 2 ^ k < 18446744073709551616 := by
  obtain ⟨y, rfl⟩ := Int.eq_ofNat_of_zero_le h
  have : ((y : Int) / 2 ^ k) = ((y / 2 ^ k : Nat) : Int) := by simp
  rw [this]
  have := Nat.div_le_self y (2 ^ k)
  generalize y / 2 ^ k = z at *
  omega

/-- A size of 128 bits. -/
theorem shl_any (y s M : Int) (w : World) (y0 : 0 ≤ y) (y1 : y < 18446744073709551616) (s0 : 0 ≤ s) (s1 : s < 128) (hM : y * 2 ^ s.toNat = M) (hlt : M < 340282366920938463463374607431768211456) :
    Calls Try.prog 78 #[.agg #[.int .u64 0, .int .u64 y], .int .i64 s] w fun e w' =>
      e = .returned (.agg #[.int .u64 (hi64 M), .int .u64 (lo64 M)]) ∧ Below w.heap.size w w' := by
  have HM := Lib.hid hM
  clear hM
  by_cases h2 : 64 ≤ s
  · go_enter Try.func78, Try.ntmps78
    go_wp2
    simp [bodyPost, results, Try.results78, go_sem]
    refine ⟨?_, ?_⟩
    · have hM := HM.out
      obtain ⟨k, rfl⟩ : ∃ k : Nat, s = 64 + k := ⟨(s - 64).toNat, by omega⟩
      simp only [IntKind.wrap_u64]
      rw [show (64 + (k : Int) - 64).toNat = k from by omega]
      rw [show (64 + (k : Int)).toNat = 64 + k from by omega, Int.pow_add] at hM
      have hM' : M = (y * 2 ^ k) * 18446744073709551616 := by rw [← hM, Int.mul_comm (2 ^ 64), ← Int.mul_assoc]; rfl
      have h0 : 0 ≤ y * 2 ^ k := Int.mul_nonneg y0 (Int.le_of_lt (Int.pow_pos (by decide)))
      generalize y * 2 ^ k = z at *
      unfold hi64 lo64
      omega
    · (repeat (first | with_reducible exact Below.refl _ _ | with_reducible apply Below.drew | (with_reducible refine below_drewN ?_ _) | (with_reducible refine Below.alloc ?_ (by (try simp) <;> omega) _) | (with_reducible refine Below.setCell ?_ (by (try simp) <;> omega) _)))
  · have h3 : ¬ 64 - s < 0 := by omega
    have hb : bits .or .u64 0 (y / 2 ^ (64 - s).toNat) = hi64 M := by
      have hd := div_pow_bd y (64 - s).toNat y0 y1
      rw [bits_or_u64 _ _ (by decide) (by decide) hd.1 hd.2, toNat_div_pow _ _ y0]
      have hM := HM.out
      obtain ⟨k, rfl⟩ := Int.eq_ofNat_of_zero_le s0
      obtain ⟨y, rfl⟩ := Int.eq_ofNat_of_zero_le y0
      rw [show (64 - (k : Int)).toNat = 64 - k from by omega]
      simp at hM
      have e := pow_split k (by omega)
      have hp : 0 < 2 ^ (64 - k) := Nat.two_pow_pos _
      have : M = ((y * 2 ^ k : Nat) : Int) := by rw [← hM]; simp
      rw [this]
      have e2 : y * 2 ^ k / 18446744073709551616 = y / 2 ^ (64 - k) := by
        rw [← e, Nat.mul_comm y]; exact Nat.mul_div_mul_left _ _ (Nat.two_pow_pos k)
      unfold hi64
      simp only [Int.toNat_natCast, Int.toNat_zero, Nat.zero_or]
      generalize y * 2 ^ k = z at *
      omega
    have HB := Lib.hid hb
    clear hb
    go_enter Try.func78, Try.ntmps78
    go_wp2
    go_region
    go_wp2
    simp [bodyPost, results, Try.results78, go_sem]
    refine ⟨⟨HB.out, ?_⟩, ?_⟩
    · rw [HM.out, IntKind.wrap_u64]; rfl
    · (repeat (first | with_reducible exact Below.refl _ _ | with_reducible apply Below.drew | (with_reducible refine below_drewN ?_ _) | (with_reducible refine Below.alloc ?_ (by (try simp) <;> omega) _) | (with_reducible refine Below.setCell ?_ (by (try simp) <;> omega) _)))

theorem shr_any (x y s M R : Int) (w : World) (x0 : 0 ≤ x) (x1 : x < 18446744073709551616) (y0 : 0 ≤ y) (y1 : y < 18446744073709551616) (s0 : 0 ≤ s) (s1 : s < 128)
    (hM : x * 18446744073709551616 + y = M) (hR : M / 2 ^ s.toNat = R) :
    Calls Try.prog 79 #[.agg #[.int .u64 x, .int .u64 y], .int .i64 s] w fun e w' =>
      e = .returned (.agg #[.int .u64 (hi64 R), .int .u64 (lo64 R)]) ∧ Below w.heap.size w w' := by
  have HM := Lib.hid hM
  have HR := Lib.hid hR
  clear hM hR
  by_cases h2 : 64 ≤ s
  · have hr : hi64 R = 0 ∧ x / 2 ^ (s - 64).toNat = lo64 R := by
      have hM := HM.out
      have hR := HR.out
      obtain ⟨k, rfl⟩ : ∃ k : Nat, s = 64 + k := ⟨(s - 64).toNat, by omega⟩
      rw [show (64 + (k : Int) - 64).toNat = k from by omega]
      rw [show (64 + (k : Int)).toNat = 64 + k from by omega, Int.pow_add] at hR
      rw [← Int.ediv_ediv_of_nonneg (by decide)] at hR
      have e : M / 2 ^ 64 = x := by have : (2 : Int) ^ 64 = 18446744073709551616 := rfl
                                    rw [this]; omega
      rw [e] at hR
      have hd := div_pow_bd x k x0 x1
      rw [hR] at hd ⊢
      unfold hi64 lo64
      omega
    obtain ⟨hr1, hr2⟩ := hr
    have H1 := Lib.hid hr1
    have H2 := Lib.hid hr2
    clear hr1 hr2
    go_enter Try.func79, Try.ntmps79
    go_wp2
    simp [bodyPost, results, Try.results79, go_sem]
    refine ⟨⟨H1.out.symm, H2.out⟩, ?_⟩
    (repeat (first | with_reducible exact Below.refl _ _ | with_reducible apply Below.drew | (with_reducible refine below_drewN ?_ _) | (with_reducible refine Below.alloc ?_ (by (try simp) <;> omega) _) | (with_reducible refine Below.setCell ?_ (by (try simp) <;> omega) _)))
  · have hr : x / 2 ^ s.toNat = hi64 R ∧ bits .or .u64 (y / 2 ^ s.toNat) (IntKind.u64.wrap (x * 2 ^ (64 - s).toNat)) = lo64 R := by
      have hM := HM.out
      have hR := HR.out
      obtain ⟨k, rfl⟩ := Int.eq_ofNat_of_zero_le s0
      obtain ⟨y, rfl⟩ := Int.eq_ofNat_of_zero_le y0
      obtain ⟨x, rfl⟩ := Int.eq_ofNat_of_zero_le x0
      have hd := div_pow_bd y k y0 y1
      rw [show (64 - (k : Int)).toNat = 64 - k from by omega, IntKind.wrap_u64]
      rw [Int.toNat_natCast] at *
      have e1 := shr_hi_eq x y k (by omega) (by omega)
      have e2 := shr_lo_eq x y k (by omega) (by omega)
      have hR' : R = (((x * 18446744073709551616 + y) / 2 ^ k : Nat) : Int) := by rw [← hR, ← hM]; simp
      have hm : ((x : Int) * 2 ^ (64 - k)) % 18446744073709551616 = ((x * 2 ^ (64 - k) % 18446744073709551616 : Nat) : Int) := by simp
      rw [hm, bits_or_u64 _ _ hd.1 hd.2 (by omega) (by have := Nat.mod_lt (x * 2 ^ (64 - k)) (show 18446744073709551616 > 0 by decide); omega), toNat_div_pow _ _ (by omega), hR']
      refine ⟨?_, ?_⟩
      · unfold hi64
        rw [show ((x : Int) / 2 ^ k) = ((x / 2 ^ k : Nat) : Int) from by simp]
        omega
      · unfold lo64
        rw [Int.toNat_natCast, Int.toNat_natCast, Nat.or_comm]
        omega
    obtain ⟨hr1, hr2⟩ := hr
    have H1 := Lib.hid hr1
    have H2 := Lib.hid hr2
    clear hr1 hr2
    have h3 : ¬ 64 - s < 0 := by omega
    go_enter Try.func79, Try.ntmps79
    go_wp2
    go_region
    go_wp2
    simp [bodyPost, results, Try.results79, go_sem]
    refine ⟨⟨H1.out, H2.out⟩, ?_⟩
    (repeat (first | with_reducible exact Below.refl _ _ | with_reducible apply Below.drew | (with_reducible refine below_drewN ?_ _) | (with_reducible refine Below.alloc ?_ (by (try simp) <;> omega) _) | (with_reducible refine Below.setCell ?_ (by (try simp) <;> omega) _)))

theorem plus_any (x y u v S : Int) (w : World) (x0 : 0 ≤ x) (y0 : 0 ≤ y) (y1 : y < 18446744073709551616) (u0 : 0 ≤ u) (v0 : 0 ≤ v) (v1 : v < 18446744073709551616)
    (hS : (x + u) * 18446744073709551616 + y + v = S) (hlt : S < 340282366920938463463374607431768211456) :
    Calls Try.prog 85 #[.agg #[.int .u64 x, .int .u64 y], .agg #[.int .u64 u, .int .u64 v]] w fun e w' =>
      e = .returned (.agg #[.int .u64 (hi64 S), .int .u64 (lo64 S)]) ∧ Below w.heap.size w w' := by
  have a1 := fun w => add64_0 y v y0 v0 w
  have c1 : 0 ≤ hi64 (y + v) ∧ hi64 (y + v) ≤ 1 := by unfold hi64; omega
  have a2 := fun w => add64 x u (hi64 (y + v)) x0 u0 c1.1 c1.2 w
  have hr : lo64 (x + u + hi64 (y + v)) = hi64 S ∧ lo64 (y + v) = lo64 S := by unfold hi64 lo64; omega
  obtain ⟨hr1, hr2⟩ := hr
  have H1 := Lib.hid hr1
  have H2 := Lib.hid hr2
  clear hr1 hr2 hS c1 hlt
  go_enter Try.func85, Try.ntmps85
  go_wp2_with fail
  simp [bodyPost, results, Try.results85, go_sem]
  refine ⟨⟨H1.out, H2.out⟩, ?_⟩
  (repeat (first | with_reducible exact Below.refl _ _ | with_reducible apply Below.drew | (with_reducible refine below_drewN ?_ _) | (with_reducible refine Below.alloc ?_ (by (try simp) <;> omega) _) | (with_reducible refine Below.setCell ?_ (by (try simp) <;> omega) _)))
end Go.Proofs.Ytokcdlcmamdloaa
/- Contracts of the reference's scalars (5): shifted. -/
namespace Go.Proofs.Ytokcdlcmamdloaa
open Go.RowKit
set_option maxRecDepth 100000

theorem rshift30_any (M : Nat) (m : Bool) (w : World) (hM : M + 536870912 < 340282366920938463463374607431768211456) :
    Calls Try.prog 68 #[.agg #[.int .u64 (hi64 (M : Int)), .int .u64 (lo64 (M : Int)), .bool m], .int .i64 30] w fun e w' =>
      e = .returned (.agg #[.int .u64 (hi64 (shM M 30 : Nat)), .int .u64 (lo64 (shM M 30 : Nat)), .bool m]) ∧ Below w.heap.size w w' := by
  obtain ⟨T, hT⟩ : ∃ T : Nat, M + 536870912 = T := ⟨_, rfl⟩
  have hsh : shM M 30 = T / 1073741824 := by unfold shM; rw [if_neg (by decide), ← hT]
  have AD := fun w => radd_any M 536870912 m m w hM
  rw [show adM m m M 536870912 = T from by unfold adM; simp [hT], show adS m m M 536870912 = m from by unfold adS; simp] at AD
  rw [show hi64 ((536870912 : Nat) : Int) = 0 from by decide, show lo64 ((536870912 : Nat) : Int) = 536870912 from by decide] at AD
  have AD := Lib.hid AD
  have r1 : hi64 (T : Int) / 1073741824 = hi64 ((T / 1073741824 : Nat) : Int) := by unfold hi64; omega
  have hx : hi64 (T : Int) = ((T / 18446744073709551616 : Nat) : Int) := by unfold hi64; omega
  have hy : lo64 (T : Int) = ((T % 18446744073709551616 : Nat) : Int) := by unfold lo64; omega
  have r2 : bits .or .u64 (lo64 (T : Int) / 1073741824) (IntKind.u64.wrap (hi64 (T : Int) * 17179869184)) = lo64 ((T / 1073741824 : Nat) : Int) := by
    have k := shr_lo_eq (T / 18446744073709551616) (T % 18446744073709551616) 30 (by decide) (by omega)
    rw [show T / 18446744073709551616 * 18446744073709551616 + T % 18446744073709551616 = T from by omega] at k
    rw [hx, hy, IntKind.wrap_u64]
    rw [show (((T % 18446744073709551616 : Nat) : Int) / 1073741824) = ((T % 18446744073709551616 / 1073741824 : Nat) : Int) from by omega]
    rw [show (((T / 18446744073709551616 : Nat) : Int) * 17179869184 % 18446744073709551616) = ((T / 18446744073709551616 * 17179869184 % 18446744073709551616 : Nat) : Int) from by omega]
    rw [bits_or_u64_nat _ _ (by omega) (by omega), Nat.or_comm]
    unfold lo64
    rw [show (2 : Nat) ^ 30 = 1073741824 from rfl, show (2 : Nat) ^ (64 - 30) = 17179869184 from rfl] at k
    rw [← k]
    omega
  obtain ⟨u, hu⟩ : ∃ u, hi64 ((T / 1073741824 : Nat) : Int) = u := ⟨_, rfl⟩
  obtain ⟨v, hv⟩ : ∃ v, lo64 ((T / 1073741824 : Nat) : Int) = v := ⟨_, rfl⟩
  rw [hu] at r1
  rw [hv] at r2
  have HS := Lib.hid (And.intro hsh (And.intro hu hv))
  clear hsh hx hy hM hT hu hv
  go_enter Try.func68, Try.ntmps68
  go_wp2_with fail
  refine (AD.out _).mono ?_; rintro e w1 ⟨rfl, hb1⟩
  have hb1z0 : w.heap.size < w1.heap.size := by have := hb1.size; (try simp at this); omega
  have hb1z1 : w.heap.size + 1 < w1.heap.size := by have := hb1.size; (try simp at this); omega
  have hb1z2 : w.heap.size + 1 + 1 < w1.heap.size := by have := hb1.size; (try simp at this); omega
  have hb1c0_0 := hb1.cell (p := ⟨w.heap.size, 0, none⟩) (by (try simp); (try omega))
  have hb1f0_0 := hb1.frozen (p := ⟨w.heap.size, 0, none⟩) (by (try simp); (try omega))
  simp [go_sem, *] at hb1c0_0 hb1f0_0
  have hb1c0_1 := hb1.cell (p := ⟨w.heap.size, 1, none⟩) (by (try simp); (try omega))
  have hb1f0_1 := hb1.frozen (p := ⟨w.heap.size, 1, none⟩) (by (try simp); (try omega))
  simp [go_sem, *] at hb1c0_1 hb1f0_1
  have hb1c0_2 := hb1.cell (p := ⟨w.heap.size, 2, none⟩) (by (try simp); (try omega))
  have hb1f0_2 := hb1.frozen (p := ⟨w.heap.size, 2, none⟩) (by (try simp); (try omega))
  simp [go_sem, *] at hb1c0_2 hb1f0_2
  have hb1c1_0 := hb1.cell (p := ⟨w.heap.size + 1, 0, none⟩) (by (try simp); (try omega))
  have hb1f1_0 := hb1.frozen (p := ⟨w.heap.size + 1, 0, none⟩) (by (try simp); (try omega))
  simp [go_sem, *] at hb1c1_0 hb1f1_0
  have hb1c1_1 := hb1.cell (p := ⟨w.heap.size + 1, 1, none⟩) (by (try simp); (try omega))
  have hb1f1_1 := hb1.frozen (p := ⟨w.heap.size + 1, 1, none⟩) (by (try simp); (try omega))
  simp [go_sem, *] at hb1c1_1 hb1f1_1
  have hb1c1_2 := hb1.cell (p := ⟨w.heap.size + 1, 2, none⟩) (by (try simp); (try omega))
  have hb1f1_2 := hb1.frozen (p := ⟨w.heap.size + 1, 2, none⟩) (by (try simp); (try omega))
  simp [go_sem, *] at hb1c1_2 hb1f1_2
  have hb1c2_0 := hb1.cell (p := ⟨w.heap.size + 1 + 1, 0, none⟩) (by (try simp); (try omega))
  have hb1f2_0 := hb1.frozen (p := ⟨w.heap.size + 1 + 1, 0, none⟩) (by (try simp); (try omega))
  simp [go_sem, *] at hb1c2_0 hb1f2_0
  have hb1c2_1 := hb1.cell (p := ⟨w.heap.size + 1 + 1, 1, none⟩) (by (try simp); (try omega))
  have hb1f2_1 := hb1.frozen (p := ⟨w.heap.size + 1 + 1, 1, none⟩) (by (try simp); (try omega))
  simp [go_sem, *] at hb1c2_1 hb1f2_1
  have hb1c2_2 := hb1.cell (p := ⟨w.heap.size + 1 + 1, 2, none⟩) (by (try simp); (try omega))
  have hb1f2_2 := hb1.frozen (p := ⟨w.heap.size + 1 + 1, 2, none⟩) (by (try simp); (try omega))
  simp [go_sem, *] at hb1c2_2 hb1f2_2
  have B1 := Lib.hid (Below.trans (show Below w.heap.size w _ by (repeat (first | with_reducible exact Below.refl _ _ | with_reducible apply Below.drew | (with_reducible refine below_drewN ?_ _) | (with_reducible refine Below.alloc ?_ (by (try simp) <;> omega) _) | (with_reducible refine Below.setCell ?_ (by (try simp) <;> omega) _)))) (hb1.mono (by simp; omega)))
  clear hb1
  go_wp2_with fail
  refine bodyPost_ret (v := .agg #[.int .u64 u, .int .u64 v, .bool m]) (by simp [results, Try.results68, go_sem, *]) rfl ⟨?_, ?_⟩
  · rw [HS.out.1, HS.out.2.1, HS.out.2.2]
  · have hB := B1.out
    (repeat (first | with_reducible exact Below.refl _ _ | with_reducible assumption | with_reducible apply Below.drew | (with_reducible refine below_drewN ?_ _) | (with_reducible refine Below.alloc ?_ (by (try simp) <;> omega) _) | (with_reducible refine Below.setCell ?_ (by (try simp) <;> omega) _) | (with_reducible refine Below.trans ?_ (Below.mono (by assumption) (by (try simp) <;> omega)))))

theorem rshift44_any (M : Nat) (m : Bool) (w : World) (hM : M + 8796093022208 < 340282366920938463463374607431768211456) :
    Calls Try.prog 68 #[.agg #[.int .u64 (hi64 (M : Int)), .int .u64 (lo64 (M : Int)), .bool m], .int .i64 44] w fun e w' =>
      e = .returned (.agg #[.int .u64 (hi64 (shM M 44 : Nat)), .int .u64 (lo64 (shM M 44 : Nat)), .bool m]) ∧ Below w.heap.size w w' := by
  obtain ⟨T, hT⟩ : ∃ T : Nat, M + 8796093022208 = T := ⟨_, rfl⟩
  have hsh : shM M 44 = T / 17592186044416 := by unfold shM; rw [if_neg (by decide), ← hT]
  have AD := fun w => radd_any M 8796093022208 m m w hM
  rw [show adM m m M 8796093022208 = T from by unfold adM; simp [hT], show adS m m M 8796093022208 = m from by unfold adS; simp] at AD
  rw [show hi64 ((8796093022208 : Nat) : Int) = 0 from by decide, show lo64 ((8796093022208 : Nat) : Int) = 8796093022208 from by decide] at AD
  have AD := Lib.hid AD
  have r1 : hi64 (T : Int) / 17592186044416 = hi64 ((T / 17592186044416 : Nat) : Int) := by unfold hi64; omega
  have hx : hi64 (T : Int) = ((T / 18446744073709551616 : Nat) : Int) := by unfold hi64; omega
  have hy : lo64 (T : Int) = ((T % 18446744073709551616 : Nat) : Int) := by unfold lo64; omega
  have r2 : bits .or .u64 (lo64 (T : Int) / 17592186044416) (IntKind.u64.wrap (hi64 (T : Int) * 1048576)) = lo64 ((T / 17592186044416 : Nat) : Int) := by
    have k := shr_lo_eq (T / 18446744073709551616) (T % 18446744073709551616) 44 (by decide) (by omega)
    rw [show T / 18446744073709551616 * 18446744073709551616 + T % 18446744073709551616 = T from by omega] at k
    rw [hx, hy, IntKind.wrap_u64]
    rw [show (((T % 18446744073709551616 : Nat) : Int) / 17592186044416) = ((T % 18446744073709551616 / 17592186044416 : Nat) : Int) from by omega]
    rw [show (((T / 18446744073709551616 : Nat) : Int) * 1048576 % 18446744073709551616) = ((T / 18446744073709551616 * 1048576 % 18446744073709551616 : Nat) : Int) from by omega]
    rw [bits_or_u64_nat _ _ (by omega) (by omega), Nat.or_comm]
    unfold lo64
    rw [show (2 : Nat) ^ 44 = 17592186044416 from rfl, show (2 : Nat) ^ (64 - 44) = 1048576 from rfl] at k
    rw [← k]
    omega
  obtain ⟨u, hu⟩ : ∃ u, hi64 ((T / 17592186044416 : Nat) : Int) = u := ⟨_, rfl⟩
  obtain ⟨v, hv⟩ : ∃ v, lo64 ((T / 17592186044416 : Nat) : Int) = v := ⟨_, rfl⟩
  rw [hu] at r1
  rw [hv] at r2
  have HS := Lib.hid (And.intro hsh (And.intro hu hv))
  clear hsh hx hy hM hT hu hv
  go_enter Try.func68, Try.ntmps68
  go_wp2_with fail
  refine (AD.out _).mono ?_; rintro e w1 ⟨rfl, hb1⟩
  have hb1z0 : w.heap.size < w1.heap.size := by have := hb1.size; (try simp at this); omega
  have hb1z1 : w.heap.size + 1 < w1.heap.size := by have := hb1.size; (try simp at this); omega
  have hb1z2 : w.heap.size + 1 + 1 < w1.heap.size := by have := hb1.size; (try simp at this); omega
  have hb1c0_0 := hb1.cell (p := ⟨w.heap.size, 0, none⟩) (by (try simp); (try omega))
  have hb1f0_0 := hb1.frozen (p := ⟨w.heap.size, 0, none⟩) (by (try simp); (try omega))
  simp [go_sem, *] at hb1c0_0 hb1f0_0
  have hb1c0_1 := hb1.cell (p := ⟨w.heap.size, 1, none⟩) (by (try simp); (try omega))
  have hb1f0_1 := hb1.frozen (p := ⟨w.heap.size, 1, none⟩) (by (try simp); (try omega))
  simp [go_sem, *] at hb1c0_1 hb1f0_1
  have hb1c0_2 := hb1.cell (p := ⟨w.heap.size, 2, none⟩) (by (try simp); (try omega))
  have hb1f0_2 := hb1.frozen (p := ⟨w.heap.size, 2, none⟩) (by (try simp); (try omega))
  simp [go_sem, *] at hb1c0_2 hb1f0_2
  have hb1c1_0 := hb1.cell (p := ⟨w.heap.size + 1, 0, none⟩) (by (try simp); (try omega))
  have hb1f1_0 := hb1.frozen (p := ⟨w.heap.size + 1, 0, none⟩) (by (try simp); (try omega))
  simp [go_sem, *] at hb1c1_0 hb1f1_0
  have hb1c1_1 := hb1.cell (p := ⟨w.heap.size + 1, 1, none⟩) (by (try simp); (try omega))
  have hb1f1_1 := hb1.frozen (p := ⟨w.heap.size + 1, 1, none⟩) (by (try simp); (try omega))
  simp [go_sem, *] at hb1c1_1 hb1f1_1
  have hb1c1_2 := hb1.cell (p := ⟨w.heap.size + 1, 2, none⟩) (by (try simp); (try omega))
  have hb1f1_2 := hb1.frozen (p := ⟨w.heap.size + 1, 2, none⟩) (by (try simp); (try omega))
  simp [go_sem, *] at hb1c1_2 hb1f1_2
  have hb1c2_0 := hb1.cell (p := ⟨w.heap.size + 1 + 1, 0, none⟩) (by (try simp); (try omega))
  have hb1f2_0 := hb1.frozen (p := ⟨w.heap.size + 1 + 1, 0, none⟩) (by (try simp); (try omega))
  simp [go_sem, *] at hb1c2_0 hb1f2_0
  have hb1c2_1 := hb1.cell (p := ⟨w.heap.size + 1 + 1, 1, none⟩) (by (try simp); (try omega))
  have hb1f2_1 := hb1.frozen (p := ⟨w.heap.size + 1 + 1, 1, none⟩) (by (try simp); (try omega))
  simp [go_sem, *] at hb1c2_1 hb1f2_1
  have hb1c2_2 := hb1.cell (p := ⟨w.heap.size + 1 + 1, 2, none⟩) (by (try simp); (try omega))
  have hb1f2_2 := hb1.frozen (p := ⟨w.heap.size + 1 + 1, 2, none⟩) (by (try simp); (try omega))
  simp [go_sem, *] at hb1c2_2 hb1f2_2
  have B1 := Lib.hid (Below.trans (show Below w.heap.size w _ by (repeat (first | with_reducible exact Below.refl _ _ | with_reducible apply Below.drew | (with_reducible refine below_drewN ?_ _) | (with_reducible refine Below.alloc ?_ (by (try simp) <;> omega) _) | (with_reducible refine Below.setCell ?_ (by (try simp) <;> omega) _)))) (hb1.mono (by simp; omega)))
  clear hb1
  go_wp2_with fail
  refine bodyPost_ret (v := .agg #[.int .u64 u, .int .u64 v, .bool m]) (by simp [results, Try.results68, go_sem, *]) rfl ⟨?_, ?_⟩
  · rw [HS.out.1, HS.out.2.1, HS.out.2.2]
  · have hB := B1.out
    (repeat (first | with_reducible exact Below.refl _ _ | with_reducible assumption | with_reducible apply Below.drew | (with_reducible refine below_drewN ?_ _) | (with_reducible refine Below.alloc ?_ (by (try simp) <;> omega) _) | (with_reducible refine Below.setCell ?_ (by (try simp) <;> omega) _) | (with_reducible refine Below.trans ?_ (Below.mono (by assumption) (by (try simp) <;> omega)))))
end Go.Proofs.Ytokcdlcmamdloaa
/- The long division of the reference, bit by bit: what a round makes. No program. -/
namespace Go.Proofs.Ytokcdlcmamdloaa
theorem half_pow (M j : Nat) : M / 2 ^ (j + 1) = M / 2 ^ j / 2 := by rw [Nat.pow_succ, Nat.div_div_eq_div_mul]
theorem mod_two_int (n : Nat) : bits .and .u64 (n : Int) 1 = ((n % 2 : Nat) : Int) ∨ 18446744073709551616 ≤ n := by
  by_cases h : n < 18446744073709551616
  · refine .inl ?_
    rw [show (1 : Int) = ((1 : Nat) : Int) from rfl, bits_and_u64_nat n 1 h (by decide)]
    rw [show (1 : Nat) = 2 ^ 1 - 1 from rfl, Nat.and_two_pow_sub_one_eq_mod]
  · exact .inr (by omega)
theorem bit_hi (M s : Nat) (hM : M < 340282366920938463463374607431768211456) : bits .and .u64 (hi64 (M : Int) / 2 ^ s) 1 = ((M / 2 ^ (64 + s) % 2 : Nat) : Int) := by
  have e : hi64 (M : Int) / 2 ^ s = ((M / 2 ^ (64 + s) : Nat) : Int) := by
    rw [Nat.pow_add, ← Nat.div_div_eq_div_mul]
    rw [show hi64 (M : Int) = ((M / 2 ^ 64 : Nat) : Int) by unfold hi64; rw [show (2 : Nat) ^ 64 = 18446744073709551616 from rfl]; omega]
    simp
  rw [e]
  rcases mod_two_int (M / 2 ^ (64 + s)) with h | h
  · exact h
  · exfalso
    rw [Nat.pow_add, ← Nat.div_div_eq_div_mul] at h
    have := Nat.div_le_self (M / 2 ^ 64) (2 ^ s)
    rw [show (2 : Nat) ^ 64 = 18446744073709551616 from rfl] at *
    omega
theorem bit_lo (M s : Nat) (hs : s < 64) : bits .and .u64 (lo64 (M : Int) / 2 ^ s) 1 = ((M / 2 ^ s % 2 : Nat) : Int) := by
  have e : lo64 (M : Int) / 2 ^ s = ((M % 2 ^ 64 / 2 ^ s : Nat) : Int) := by
    rw [show lo64 (M : Int) = ((M % 2 ^ 64 : Nat) : Int) by unfold lo64; rw [show (2 : Nat) ^ 64 = 18446744073709551616 from rfl]; omega]
    simp
  have hp : 0 < 2 ^ s := Nat.two_pow_pos s
  have hd : M % 2 ^ 64 / 2 ^ s % 2 = M / 2 ^ s % 2 := by
    obtain ⟨t, ht⟩ : ∃ t, 64 = s + (t + 1) := ⟨63 - s, by omega⟩
    rw [ht, Nat.pow_add, Nat.mod_mul, Nat.add_mul_div_left _ _ hp, Nat.div_eq_of_lt (Nat.mod_lt _ hp), Nat.zero_add, Nat.pow_succ, Nat.mul_comm (2 ^ t), Nat.mod_mul_right_mod]
  rw [e]
  rcases mod_two_int (M % 2 ^ 64 / 2 ^ s) with h | h
  · rw [h, hd]
  · exfalso
    have := Nat.div_le_self (M % 2 ^ 64) (2 ^ s)
    rw [show (2 : Nat) ^ 64 = 18446744073709551616 from rfl] at *
    omega
theorem or_hi (q s : Nat) (hq : q * 2 ^ (64 + s + 1) < 340282366920938463463374607431768211456) (hs : s < 64) :
    bits .or .u64 (hi64 ((q * 2 ^ (64 + s + 1) : Nat) : Int)) (2 ^ s) = hi64 (((2 * q + 1) * 2 ^ (64 + s) : Nat) : Int) ∧ lo64 ((q * 2 ^ (64 + s + 1) : Nat) : Int) = lo64 (((2 * q + 1) * 2 ^ (64 + s) : Nat) : Int) := by
  have e1 : q * 2 ^ (64 + s + 1) = (2 ^ (s + 1) * q) * 18446744073709551616 := by
    rw [show 64 + s + 1 = (s + 1) + 64 by omega, Nat.pow_add, show (2 : Nat) ^ 64 = 18446744073709551616 from rfl, ← Nat.mul_assoc, Nat.mul_comm q]
  have e2 : (2 * q + 1) * 2 ^ (64 + s) = (2 ^ (s + 1) * q + 2 ^ s) * 18446744073709551616 := by
    rw [show 64 + s = s + 64 by omega, Nat.pow_add, show (2 : Nat) ^ 64 = 18446744073709551616 from rfl, ← Nat.mul_assoc, Nat.pow_succ]
    congr 1
    rw [Nat.add_mul, Nat.one_mul, Nat.mul_assoc 2, Nat.mul_comm (2 ^ s) 2, Nat.mul_assoc 2, Nat.mul_comm q]
  have hl : 2 ^ s < 2 ^ (s + 1) := Nat.pow_lt_pow_right (by decide) (by omega)
  have hl2 : 2 ^ s < 18446744073709551616 := by rw [show 18446744073709551616 = 2 ^ 64 from rfl]; exact Nat.pow_lt_pow_right (by decide) hs
  have h3 := Nat.two_pow_add_eq_or_of_lt hl q
  rw [e1] at hq ⊢
  rw [e2]
  rw [show (2 : Int) ^ s = ((2 ^ s : Nat) : Int) by simp]
  generalize 2 ^ (s + 1) * q = A at *
  generalize 2 ^ s = B at *
  refine ⟨?_, ?_⟩
  · rw [show hi64 ((A * 18446744073709551616 : Nat) : Int) = (A : Int) by unfold hi64; omega, bits_or_u64_nat _ _ (by omega) hl2, ← h3]
    unfold hi64; omega
  · unfold lo64; omega
theorem or_lo (q s : Nat) (_hq : q * 2 ^ (s + 1) < 340282366920938463463374607431768211456) (hs : s < 64) :
    bits .or .u64 (lo64 ((q * 2 ^ (s + 1) : Nat) : Int)) (2 ^ s) = lo64 (((2 * q + 1) * 2 ^ s : Nat) : Int) ∧ hi64 ((q * 2 ^ (s + 1) : Nat) : Int) = hi64 (((2 * q + 1) * 2 ^ s : Nat) : Int) := by
  obtain ⟨t, ht⟩ : ∃ t, 64 = (s + 1) + t := ⟨63 - s, by omega⟩
  have e0 : (2 * q + 1) * 2 ^ s = q * 2 ^ (s + 1) + 2 ^ s := by rw [Nat.add_mul, Nat.one_mul, Nat.pow_succ, Nat.mul_comm (2 ^ s) 2, Nat.mul_assoc, ← Nat.mul_assoc q, Nat.mul_comm q 2, Nat.mul_assoc]
  have hl : 2 ^ s < 2 ^ (s + 1) := Nat.pow_lt_pow_right (by decide) (by omega)
  have hl2 : 2 ^ s < 18446744073709551616 := by rw [show 18446744073709551616 = 2 ^ 64 from rfl]; exact Nat.pow_lt_pow_right (by decide) hs
  have e1 : q * 2 ^ (s + 1) % 18446744073709551616 = 2 ^ (s + 1) * (q % 2 ^ t) := by
    rw [show 18446744073709551616 = 2 ^ (s + 1) * 2 ^ t by rw [← Nat.pow_add, ← ht], Nat.mul_comm q, Nat.mul_mod_mul_left]
  have h3 := Nat.two_pow_add_eq_or_of_lt hl (q % 2 ^ t)
  have h4 : 2 ^ (s + 1) * (q % 2 ^ t) + 2 ^ s < 18446744073709551616 := by
    have h5 : q % 2 ^ t + 1 ≤ 2 ^ t := Nat.mod_lt _ (Nat.two_pow_pos t)
    have h6 : 2 ^ (s + 1) * (q % 2 ^ t + 1) ≤ 2 ^ (s + 1) * 2 ^ t := Nat.mul_le_mul_left _ h5
    rw [← Nat.pow_add, ← ht, Nat.mul_add, Nat.mul_one, show (2 : Nat) ^ 64 = 18446744073709551616 from rfl] at h6
    omega
  rw [e0]
  rw [show (2 : Int) ^ s = ((2 ^ s : Nat) : Int) by simp]
  generalize q * 2 ^ (s + 1) = A at *
  generalize 2 ^ (s + 1) * (q % 2 ^ t) = C at *
  generalize 2 ^ s = B at *
  refine ⟨?_, ?_⟩
  · rw [show lo64 (A : Int) = (C : Int) by unfold lo64; omega, bits_or_u64_nat _ _ (by omega) hl2, ← h3]
    unfold lo64; omega
  · unfold hi64; omega
/-- One more bit. -/
theorem dv_two (T d b H r q : Nat) (hd : 0 < d) (hb : T % 2 = b) (hH : T / 2 = H) (hr : H % d = r) (hq : H / d = q) :
    b < 2 ∧ r < d ∧ (2 * r + b < d → T % d = 2 * r + b ∧ T / d = 2 * q) ∧ (¬ 2 * r + b < d → T % d = 2 * r + b - d ∧ T / d = 2 * q + 1) := by
  have h1 := Nat.mod_lt H hd
  have hm := Nat.div_add_mod H d
  rw [hr] at h1
  rw [hr, hq] at hm
  have b2 : b < 2 := by omega
  refine ⟨b2, h1, fun h => ?_, fun h => ?_⟩
  · have e : T = (2 * r + b) + d * (2 * q) := by rw [Nat.mul_left_comm]; omega
    rw [e, Nat.add_mul_mod_self_left, Nat.mod_eq_of_lt h, Nat.add_mul_div_left _ _ hd, Nat.div_eq_of_lt h]; omega
  · have e : T = (2 * r + b - d) + d * (2 * q + 1) := by rw [Nat.mul_add, Nat.mul_one, Nat.mul_left_comm]; omega
    have h' : 2 * r + b - d < d := by omega
    rw [e, Nat.add_mul_mod_self_left, Nat.mod_eq_of_lt h', Nat.add_mul_div_left _ _ hd, Nat.div_eq_of_lt h']; omega
theorem or_one (r b : Nat) (h : 2 * r + b < 18446744073709551616) (hb : b < 2) : bits .or .u64 ((r : Int) * 2) (b : Int) = ((2 * r + b : Nat) : Int) := by
  rw [show ((r : Int) * 2) = ((2 ^ 1 * r : Nat) : Int) by simp; omega, bits_or_u64_nat _ _ (by omega) (by omega), ← Nat.two_pow_add_eq_or_of_lt (by omega)]
end Go.Proofs.Ytokcdlcmamdloaa
/- Contracts of the reference's scalars (6): divided. -/
namespace Go.Proofs.Ytokcdlcmamdloaa
open Go.RowKit
set_option maxRecDepth 100000
theorem Wid.set0 {w : World} {b : Nat} {M N : Int} {m : Bool} (h : Wid w b M m) (hl : lo64 M = lo64 N) : Wid (w.setCell ⟨b, 0, none⟩ (.int .u64 (hi64 N))) b N m := by
  have := heap_setCell_same w b 0 _ _ (.int .u64 (hi64 N)) h
  rw [hl] at this
  exact this
theorem Wid.set1 {w : World} {b : Nat} {M N : Int} {m : Bool} (h : Wid w b M m) (hl : hi64 M = hi64 N) : Wid (w.setCell ⟨b, 1, none⟩ (.int .u64 (lo64 N))) b N m := by
  have := heap_setCell_same w b 1 _ _ (.int .u64 (lo64 N)) h
  rw [hl] at this
  exact this
theorem and63 : ∀ j, j < 128 → bits .and .i64 ((j : Nat) : Int) 63 = ((j % 64 : Nat) : Int) := by decide +kernel
theorem pow_wrap (s : Nat) (hs : s < 64) : IntKind.u64.wrap ((2 : Int) ^ s) = 2 ^ s := by
  have h : 2 ^ s < 18446744073709551616 := by rw [show 18446744073709551616 = 2 ^ 64 from rfl]; exact Nat.pow_lt_pow_right (by decide) hs
  rw [show (2 : Int) ^ s = ((2 ^ s : Nat) : Int) by simp]
  generalize 2 ^ s = x at *
  rw [IntKind.wrap_u64]
  omega
/-- What a round of 'divided' keeps. -/
structure DvR (M Q : Nat) (m : Bool) (w wr : World) : Prop where
  below : Below w.heap.size w wr
  a : Wid wr w.heap.size M m
  q : Wid wr (w.heap.size + 1 + 1) Q m
  z : Wid wr (w.heap.size + 1) 0 false
set_option maxHeartbeats 8000000 in
theorem rdivided_any (M d : Nat) (m : Bool) (w : World) (hM : M < 340282366920938463463374607431768211456) (d0 : 0 < d) (d1 : d ≤ 1152921504606846976) :
    Calls Try.prog 72 #[.agg #[.int .u64 (hi64 (M : Int)), .int .u64 (lo64 (M : Int)), .bool m], .int .u64 (d : Int)] w fun e w' =>
      e = .returned (.agg #[.int .u64 (hi64 (dvM M d : Nat)), .int .u64 (lo64 (dvM M d : Nat)), .bool m]) ∧ Below w.heap.size w w' := by
  have HM := Lib.hid (And.intro hM (And.intro d0 d1))
  have R0 : Hid (DvR M (M / 2 ^ 128 / d * 2 ^ 128) m w (((w.alloc (.cells #[.int .u64 (hi64 (M : Int)), .int .u64 (lo64 (M : Int)), .bool m] 103)).alloc (.cells #[.int .u64 0, .int .u64 0, .bool false] 103)).alloc (.cells #[.int .u64 0, .int .u64 0, .bool m] 103))) := by
    refine Lib.hid ⟨by (repeat (first | with_reducible exact Below.refl _ _ | with_reducible apply Below.drew | (with_reducible refine below_drewN ?_ _) | (with_reducible refine Below.alloc ?_ (by (try simp) <;> omega) _) | (with_reducible refine Below.setCell ?_ (by (try simp) <;> omega) _))), ((Wid.new w (M : Int) m).alloc _).alloc _, ?_, ?_⟩
    · have e : M / 2 ^ 128 = 0 := Nat.div_eq_of_lt hM
      rw [e, Nat.zero_div, Nat.zero_mul]
      have h := Wid.new ((w.alloc (.cells #[.int .u64 (hi64 (M : Int)), .int .u64 (lo64 (M : Int)), .bool m] 103)).alloc (.cells #[.int .u64 0, .int .u64 0, .bool false] 103)) 0 m
      rw [show hi64 0 = 0 by decide, show lo64 0 = 0 by decide] at h
      simpa using h
    · have h := (Wid.new (w.alloc (.cells #[.int .u64 (hi64 (M : Int)), .int .u64 (lo64 (M : Int)), .bool m] 103)) 0 false).alloc (.cells #[.int .u64 0, .int .u64 0, .bool m] 103)
      rw [show hi64 0 = 0 by decide, show lo64 0 = 0 by decide] at h
      simpa using h
  have E0 : ((M / 2 ^ 128 % d : Nat) : Int) = 0 := by rw [Nat.div_eq_of_lt hM]; simp
  clear hM d0 d1
  go_enter Try.func72, Try.ntmps72
  go_upto_region 4 with fail
  generalize ((w.alloc (.cells #[.int .u64 (hi64 (M : Int)), .int .u64 (lo64 (M : Int)), .bool m] 103)).alloc (.cells #[.int .u64 0, .int .u64 0, .bool false] 103)).alloc (.cells #[.int .u64 0, .int .u64 0, .bool m] 103) = W0 at *
  go_wp2_with fail
  go_loopw [6, 7, 8] (fun v6 v7 v8 wr => ∃ (k : Nat) (i : Int), k ≤ 128 ∧ i = (k : Int) - 1 ∧ v7 = .int .i64 i ∧ v6 = .int .u64 ((M / 2 ^ k % d : Nat) : Int) ∧ Hid (DvR M (M / 2 ^ k / d * 2 ^ k) m w wr)) (fun _ v _ _ => (intOf v + 1).toNat)
  case atStart => exact ⟨128, 127, by omega, by omega, rfl, by rw [E0], R0⟩
  case round =>
    obtain ⟨k, i, hk, hi, rfl, rfl, R⟩ := hrel
    clear R0 E0
    cases k with
    | zero =>
      obtain rfl : i = -1 := by omega
      rw [Nat.pow_zero, Nat.div_one, Nat.mul_one] at R
      rw [Nat.pow_zero, Nat.div_one]
      obtain ⟨bw, ba, qa, zb⟩ := R.out
      obtain ⟨⟨u0, u1, u2⟩, v0, v1, v2⟩ := qa.c
      have rl := Nat.mod_lt M HM.out.2.1
      obtain ⟨r, hr⟩ : ∃ r, M % d = r := ⟨_, rfl⟩
      obtain ⟨q, hq⟩ : ∃ q, M / d = q := ⟨_, rfl⟩
      rw [hr] at rl ⊢
      rw [hq] at u0 u1 qa
      have hsz := qa.lt
      obtain ⟨⟨z0, z1, z2⟩, x0, x1, x2⟩ := zb.c
      rw [show hi64 0 = 0 by decide] at z0
      rw [show lo64 0 = 0 by decide] at z1
      have e1 : IntKind.u64.wrap ((d : Int) - (r : Int)) = ((d - r : Nat) : Int) := by have := HM.out.2; rw [IntKind.wrap_u64]; omega
      obtain ⟨u, hu⟩ : ∃ u, d - r = u := ⟨_, rfl⟩
      rw [hu] at e1
      have HD := Lib.hid (show dvM M d = if r ≥ u then q + 1 else q by unfold dvM; rw [hr, hq, hu])
      have hq2 : q + 1 < 340282366920938463463374607431768211456 ∨ d = 1 := by
        by_cases h1 : d = 1
        · exact .inr h1
        · have : q ≤ M / 2 := by rw [← hq]; exact Nat.div_le_div_left (by have := HM.out.2; omega) (by decide)
          have := HM.out.1
          omega
      have HQ2 := Lib.hid hq2
      have HM2 := Lib.hid HM.out.2
      clear hq hr hq2 HM hi
      by_cases hg : u ≤ r
      · have g1 : decide (u ≤ r) = true := by simpa using hg
        have AD := Lib.hid (fun w => radd_any q 1 m m w (by have := HQ2.out; have := HM2.out; omega))
        rw [show adM m m q 1 = q + 1 from by unfold adM; simp, show adS m m q 1 = m from by unfold adS; simp] at AD
        rw [show hi64 ((1 : Nat) : Int) = 0 from by decide, show lo64 ((1 : Nat) : Int) = 1 from by decide] at AD
        rw [if_pos hg] at HD
        go_wp2_with fail
        refine (AD.out _).mono ?_; rintro e w1 ⟨rfl, hb1⟩
        have q1 := qa.below hb1
        have o1 := zb.below hb1
        have B1 := Lib.hid (bw.trans (hb1.mono bw.size))
        have hsz1 := q1.lt
        clear u0 u1 u2 v0 v1 v2 z0 z1 z2 x0 x1 x2 hsz R bw ba qa zb AD hb1
        obtain ⟨⟨u0, u1, u2⟩, v0, v1, v2⟩ := q1.c
        obtain ⟨⟨z0, z1, z2⟩, x0, x1, x2⟩ := o1.c
        rw [show hi64 0 = 0 by decide] at z0
        rw [show lo64 0 = 0 by decide] at z1
        go_wp2_with fail
        refine bodyPost_ret (v := .agg #[.int .u64 (hi64 ((q + 1 : Nat) : Int)), .int .u64 (lo64 ((q + 1 : Nat) : Int)), .bool m]) (by simp [results, Try.results72, go_sem, *]) rfl ⟨?_, ?_⟩
        · rw [HD.out]
        · have bw := B1.out
          (repeat (first | exact bw | (refine Below.setCell ?_ (by (try simp) <;> omega) _)))
      · have g1 : decide (u ≤ r) = false := by simpa using hg
        rw [if_neg hg] at HD
        go_wp2_with fail
        refine bodyPost_ret (v := .agg #[.int .u64 (hi64 (q : Int)), .int .u64 (lo64 (q : Int)), .bool m]) (by simp [results, Try.results72, go_sem, *]) rfl ⟨?_, ?_⟩
        · rw [HD.out]
        · (repeat (first | exact bw | (refine Below.setCell ?_ (by (try simp) <;> omega) _)))
    | succ j =>
      obtain rfl : i = (j : Int) := by omega
      have g1 : decide (0 ≤ (j : Int)) = true := by simp
      obtain ⟨T, hT⟩ : ∃ T, M / 2 ^ j = T := ⟨_, rfl⟩
      obtain ⟨H, hH⟩ : ∃ H, M / 2 ^ (j + 1) = H := ⟨_, rfl⟩
      obtain ⟨r, hr⟩ : ∃ r, H % d = r := ⟨_, rfl⟩
      obtain ⟨q, hq⟩ : ∃ q, H / d = q := ⟨_, rfl⟩
      obtain ⟨b, hb⟩ : ∃ b, T % 2 = b := ⟨_, rfl⟩
      obtain ⟨b2, r1, y1, y2⟩ := dv_two T d b H r q HM.out.2.1 hb (by rw [← hT, ← half_pow, hH]) hr hq
      rw [hH, hq] at R
      rw [hH, hr]
      have W2 := Lib.hid HM.out.2
      have e2 : IntKind.u64.wrap ((r : Int) * 2) = (r : Int) * 2 := by have := W2.out; rw [IntKind.wrap_u64]; omega
      have e3 := or_one r b (by have := W2.out; omega) b2
      obtain ⟨t, ht⟩ : ∃ t, 2 * r + b = t := ⟨_, rfl⟩
      rw [ht] at e3 y1 y2
      have t2 : t < 2 * d := by omega
      have qb : q * 2 ^ (j + 1) ≤ M := by rw [← hq, ← hH]; exact Nat.le_trans (Nat.mul_le_mul_right _ (Nat.div_le_self _ _)) (Nat.div_mul_le_self _ _)
      obtain ⟨Q, hQ⟩ : ∃ Q, q * 2 ^ (j + 1) = Q := ⟨_, rfl⟩
      rw [hQ] at R qb
      have HQ := Lib.hid hQ
      clear hQ
      obtain ⟨bw, ba, qa, zb⟩ := R.out
      obtain ⟨⟨c0, c1, c2⟩, _⟩ := ba.c
      obtain ⟨⟨u0, u1, u2⟩, v0, v1, v2⟩ := qa.c
      obtain ⟨s, hs⟩ : ∃ s, j % 64 = s := ⟨_, rfl⟩
      have s64 : s < 64 := by omega
      have f1 : bits .and .i64 (j : Int) 63 = (s : Int) := by rw [and63 j (by omega), hs]
      have f2 : IntKind.u64.wrap (s : Int) = (s : Int) := by rw [IntKind.wrap_u64]; omega
      have f3 := bit_lo M s s64
      have f4 := bit_hi M s HM.out.1
      have f5 := pow_wrap s s64
      have f6 : min s 64 = s := by omega
      have E2 := Lib.hid e2
      have Y := Lib.hid (And.intro y1 y2)
      have QB := Lib.hid qb
      have HM1 := Lib.hid HM.out.1
      clear e2 y1 y2 qb hr hq HM hi
      obtain ⟨bl, hbl⟩ : ∃ x, M / 2 ^ s % 2 = x := ⟨_, rfl⟩
      obtain ⟨bh, hbh⟩ : ∃ x, M / 2 ^ (64 + s) % 2 = x := ⟨_, rfl⟩
      rw [hbl] at f3
      rw [hbh] at f4
      have e2 := E2.out
      by_cases h64 : 64 ≤ j
      · have g2 : decide (64 ≤ (j : Int)) = true := by simp; omega
        have hj : j = 64 + s := by omega
        have HJ := Lib.hid hj
        obtain rfl : bh = b := by rw [← hbh, ← hb, ← hT, hj]
        clear hj hs hbl hbh hb
        by_cases hlt : t < d
        · have g3 : decide (d ≤ t) = false := by simp; omega
          have e0 : Q = 2 * q * 2 ^ j := by rw [← HQ.out, Nat.pow_succ, Nat.mul_comm (2 ^ j) 2, ← Nat.mul_assoc, Nat.mul_comm q 2]
          go_wp2_with fail
          go_roundw
          case rel =>
            refine ⟨j, (j : Int) - 1, by omega, rfl, by go_num, ?_, ?_⟩
            · rw [hT, (Y.out.1 hlt).1]
            · rw [hT, (Y.out.1 hlt).2, ← e0]; exact R
          case measure => simp [intOf]
        · have g3 : decide (d ≤ t) = true := by simp; omega
          obtain ⟨N, hN⟩ : ∃ N, (2 * q + 1) * 2 ^ j = N := ⟨_, rfl⟩
          have HN := Lib.hid hN
          have e4 : IntKind.u64.wrap ((t : Int) - (d : Int)) = ((t - d : Nat) : Int) := by have := W2.out; rw [IntKind.wrap_u64]; omega
          obtain ⟨u, hu⟩ : ∃ u, t - d = u := ⟨_, rfl⟩
          rw [hu] at e4
          obtain ⟨o1, o2⟩ := (show _ ∧ _ from by have := or_hi q s (by rw [← HJ.out, HQ.out]; have := QB.out; have := HM1.out; omega) s64; rw [← HJ.out, HQ.out] at this; exact this)
          rw [hN] at o1 o2
          clear hN
          go_wp2_with fail
          go_roundw
          case rel =>
            refine ⟨j, (j : Int) - 1, by omega, rfl, by go_num, ?_, ?_⟩
            · rw [hT, (Y.out.2 hlt).1, hu]
            · rw [hT, (Y.out.2 hlt).2, HN.out]
              exact Lib.hid ⟨bw.setCell (by simp; omega) _, ba.other (by simp; omega) _, qa.set0 o2, zb.other (by simp) _⟩
          case measure => simp [intOf]
      · have g2 : decide (64 ≤ (j : Int)) = false := by simp; omega
        have hj : j = s := by omega
        have HJ := Lib.hid hj
        obtain rfl : bl = b := by rw [← hbl, ← hb, ← hT, hj]
        clear hj hs hbl hbh hb
        by_cases hlt : t < d
        · have g3 : decide (d ≤ t) = false := by simp; omega
          have e0 : Q = 2 * q * 2 ^ j := by rw [← HQ.out, Nat.pow_succ, Nat.mul_comm (2 ^ j) 2, ← Nat.mul_assoc, Nat.mul_comm q 2]
          go_wp2_with fail
          go_roundw
          case rel =>
            refine ⟨j, (j : Int) - 1, by omega, rfl, by go_num, ?_, ?_⟩
            · rw [hT, (Y.out.1 hlt).1]
            · rw [hT, (Y.out.1 hlt).2, ← e0]; exact R
          case measure => simp [intOf]
        · have g3 : decide (d ≤ t) = true := by simp; omega
          obtain ⟨N, hN⟩ : ∃ N, (2 * q + 1) * 2 ^ j = N := ⟨_, rfl⟩
          have HN := Lib.hid hN
          have e4 : IntKind.u64.wrap ((t : Int) - (d : Int)) = ((t - d : Nat) : Int) := by have := W2.out; rw [IntKind.wrap_u64]; omega
          obtain ⟨u, hu⟩ : ∃ u, t - d = u := ⟨_, rfl⟩
          rw [hu] at e4
          obtain ⟨o1, o2⟩ := (show _ ∧ _ from by have := or_lo q s (by rw [← HJ.out, HQ.out]; have := QB.out; have := HM1.out; omega) s64; rw [← HJ.out, HQ.out, show (2 : Int) ^ j = 2 ^ s by rw [HJ.out]] at this; exact this)
          rw [hN] at o1 o2
          clear hN
          go_wp2_with fail
          go_roundw
          case rel =>
            refine ⟨j, (j : Int) - 1, by omega, rfl, by go_num, ?_, ?_⟩
            · rw [hT, (Y.out.2 hlt).1, hu]
            · rw [hT, (Y.out.2 hlt).2, HN.out]
              exact Lib.hid ⟨bw.setCell (by simp; omega) _, ba.other (by simp; omega) _, qa.set1 o2, zb.other (by simp) _⟩
          case measure => simp [intOf]
end Go.Proofs.Ytokcdlcmamdloaa
