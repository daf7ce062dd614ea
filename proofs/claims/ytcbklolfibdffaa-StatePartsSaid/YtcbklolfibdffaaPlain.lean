/- Plain numbers: what the scalars of package fx come to. No program here. -/
namespace Go.Proofs.Ytcbklolfibdffaa

/-- The greatest number that is told, 2^60. -/
def MX : Int := 1152921504606846976
def B64 : Int := 18446744073709551616
/-- The upper and the lower half of a number of 128 bits. -/
def hi64 (x : Int) : Int := x / 18446744073709551616
def lo64 (x : Int) : Int := x % 18446744073709551616
theorem hilo (x : Int) : hi64 x * 18446744073709551616 + lo64 x = x := by unfold hi64 lo64; omega
theorem lo64_bd (x : Int) : 0 ≤ lo64 x ∧ lo64 x < 18446744073709551616 := by unfold lo64; omega
theorem hi64_bd {x : Int} (h1 : -170141183460469231731687303715884105728 ≤ x) (h2 : x < 170141183460469231731687303715884105728) :
    -9223372036854775808 ≤ hi64 x ∧ hi64 x < 9223372036854775808 := by unfold hi64; omega
theorem hilo_eq {x h l : Int} (e : x = h * 18446744073709551616 + l) (h0 : 0 ≤ l) (h1 : l < 18446744073709551616) : hi64 x = h ∧ lo64 x = l := by
  unfold hi64 lo64; omega

def nt (x : Int) : Int := 18446744073709551615 - x
theorem nt_bd {x : Int} (h0 : 0 ≤ x) (h1 : x < 18446744073709551616) : 0 ≤ nt x ∧ nt x < 18446744073709551616 := by unfold nt; omega
def clampV (a lo hi : Int) : Int := if hi < lo then lo else if a < lo then lo else if hi < a then hi else a
def clampH (a lo hi : Int) : Bool := decide (hi < lo) || (decide (a < lo) || decide (hi < a))
def satV (a : Int) : Int := clampV a (-1152921504606846976) 1152921504606846976
def satH (a : Int) : Bool := clampH a (-1152921504606846976) 1152921504606846976
/-- Divided, rounded: of two the one farther from nought. -/
def rdiv (a d : Int) : Int :=
  if (0 ≤ a) = (0 < d) then (((2 * a.natAbs + d.natAbs) / (2 * d.natAbs) : Nat) : Int) else -(((2 * a.natAbs + d.natAbs) / (2 * d.natAbs) : Nat) : Int)
/-- Divided by 2^s, rounded. -/
def rsh (a : Int) (s : Nat) : Int := rdiv a (2 ^ s)

theorem satV_bd (a : Int) : -1152921504606846976 ≤ satV a ∧ satV a ≤ 1152921504606846976 := by
  unfold satV clampV; repeat' split
  all_goals omega
theorem satV_id {a : Int} (h1 : -1152921504606846976 ≤ a) (h2 : a ≤ 1152921504606846976) : satV a = a := by
  unfold satV clampV; repeat' split
  all_goals omega
theorem satH_no {a : Int} (h1 : -1152921504606846976 ≤ a) (h2 : a ≤ 1152921504606846976) : satH a = false := by
  unfold satH clampH; simp; omega
end Go.Proofs.Ytcbklolfibdffaa
