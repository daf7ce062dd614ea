/- Contracts of the program's functions and plain laws, part 1: they hold for all arguments. -/
import Derived.WalkKit
import Derived.WalkSpells
import Derived.WalkLawsBesides
import Derived.Below
import Derived.Lib.Hide
import Derived.Test.YtgpnopiinogkmaaProg
import Derived.Outline
import Derived.BigRegion
import Derived.BigQuiet
import Derived.Deep.QuietTactic
import Derived.Deep.RegionHeld3
import Derived.Shelf.Small.Bits
import Derived.Shelf.Strconv.Itoa0
import Derived.Shelf.Bits.Mul64
/- Plain numbers: the root, bit by bit (no program here). -/
namespace Go.Proofs.Ytgpnopiinogkmaa
theorem nA {α : Type _} (l : List α) (i : Nat) (a : α) : l.toArray.setIfInBounds i a = (l.set i a).toArray := List.setIfInBounds_toArray l i a
theorem nB {α : Type _} {x a : α} {l : List α} : (x :: l).set 0 a = a :: l := List.set_cons_zero
theorem nC {α : Type _} {x a : α} {l : List α} {n : Nat} : (x :: l).set (n + 1) a = x :: l.set n a := List.set_cons_succ
/-- One round: the rest, and twice the root so far times a power of two. -/
def rootT (s : Nat × Nat) (k : Nat) : Nat × Nat := if s.1 < s.2 + 4 ^ k then (s.1, s.2 / 2) else (s.1 - (s.2 + 4 ^ k), s.2 / 2 + 4 ^ k)
/-- Behind n of 64 rounds. -/
def rootS (A : Nat) : Nat → Nat × Nat | 0 => (A, 0) | n + 1 => rootT (rootS A n) (63 - n)
def rootV (A : Nat) : Nat := if (rootS A 64).2 < (rootS A 64).1 then (rootS A 64).2 + 1 else (rootS A 64).2
theorem rootT_inv (A m rest r R : Nat) (hr : r = R * 2 ^ (m + 1)) (he : rest + R * R = A) (hlt : A < (R + 2 ^ (m + 1)) * (R + 2 ^ (m + 1))) :
    ∃ R', (rootT (rest, r) m).2 = R' * 2 ^ m ∧ (rootT (rest, r) m).1 + R' * R' = A ∧ A < (R' + 2 ^ m) * (R' + 2 ^ m) := by
  have e4 : 4 ^ m = 2 ^ m * 2 ^ m := by rw [← Nat.mul_pow]
  unfold rootT
  rw [e4]
  rw [Nat.pow_succ] at hr hlt
  generalize 2 ^ m = q at *
  have h2 : r / 2 = R * q := by rw [hr, show R * (q * 2) = (R * q) * 2 from by rw [Nat.mul_assoc], Nat.mul_div_cancel _ (by decide)]
  rw [h2]
  have ex : (R + q) * (R + q) = R * R + 2 * (R * q) + q * q := by grind
  have hr' : r = 2 * (R * q) := by rw [hr]; grind
  by_cases h : rest < r + q * q
  · rw [if_pos h]
    refine ⟨R, rfl, he, ?_⟩
    rw [ex]; omega
  · rw [if_neg h]
    refine ⟨R + q, ?_, ?_, ?_⟩
    · rw [Nat.add_mul]
    · rw [ex]; omega
    · rw [show R + q + q = R + q * 2 from by omega]; exact hlt
theorem rootS_inv (A : Nat) (hA : A < 2 ^ 128) (n : Nat) (hn : n ≤ 64) :
    ∃ R, (rootS A n).2 = R * 2 ^ (64 - n) ∧ (rootS A n).1 + R * R = A ∧ A < (R + 2 ^ (64 - n)) * (R + 2 ^ (64 - n)) := by
  induction n with
  | zero => exact ⟨0, by simp [rootS], by simp [rootS], by rw [Nat.zero_add, ← Nat.pow_add]; exact hA⟩
  | succ n ih =>
    obtain ⟨R, h1, h2, h3⟩ := ih (by omega)
    have e : 64 - n = (63 - n) + 1 := by omega
    rw [e] at h1 h3
    have h := rootT_inv A (63 - n) _ _ R h1 h2 h3
    rw [show 64 - (n + 1) = 63 - n from by omega]
    exact h
theorem rootV_spec (A : Nat) (hA : A < 2 ^ 128) : (rootV A = 0 ∨ rootV A * rootV A < A + rootV A) ∧ A ≤ rootV A * rootV A + rootV A := by
  obtain ⟨R, h1, h2, h3⟩ := rootS_inv A hA 64 (by decide)
  simp only [show 64 - 64 = 0 from rfl, Nat.pow_zero, Nat.mul_one] at h1 h3
  unfold rootV
  rw [h1]
  have ex : (R + 1) * (R + 1) = R * R + 2 * R + 1 := by grind
  by_cases h : R < (rootS A 64).1
  · rw [if_pos h, ex]; omega
  · rw [if_neg h]; omega
/-- All numbers on the way have 128 bits. -/
theorem rootS_bd (A : Nat) (hA : A < 2 ^ 127) (n : Nat) (hn : n < 64) :
    (rootS A n).1 < 2 ^ 127 ∧ (rootS A n).2 + 4 ^ (63 - n) < 2 ^ 128 ∧ (rootS A n).2 < 2 ^ 128 := by
  obtain ⟨R, h1, h2, h3⟩ := rootS_inv A (Nat.lt_trans hA (by decide)) n (by omega)
  have e4 : 4 ^ (63 - n) = 2 ^ (63 - n) * 2 ^ (63 - n) := by rw [← Nat.mul_pow]
  have e2 : 2 ^ (64 - n) = 2 * 2 ^ (63 - n) := by rw [show 64 - n = (63 - n) + 1 from by omega, Nat.pow_succ]; omega
  have hq : 2 ^ (63 - n) ≤ 2 ^ 63 := Nat.pow_le_pow_right (by decide) (by omega)
  rw [e4, h1, e2]
  generalize 2 ^ (63 - n) = q at *
  have hR : R ≤ 13043817825332782212 := by
    rcases Nat.lt_or_ge 13043817825332782212 R with h | h
    · have h4 : 13043817825332782213 * 13043817825332782213 ≤ R * R := Nat.mul_le_mul h h
      have h5 : (2 : Nat) ^ 127 = 170141183460469231731687303715884105728 := by decide
      omega
    · exact h
  have h7 : R * (2 * q) ≤ 13043817825332782212 * (2 * 2 ^ 63) := Nat.mul_le_mul hR (by omega)
  have h8 : q * q ≤ 2 ^ 63 * 2 ^ 63 := Nat.mul_le_mul hq hq
  have h5 : (2 : Nat) ^ 127 = 170141183460469231731687303715884105728 := by decide
  have h9 : (2 : Nat) ^ 128 = 340282366920938463463374607431768211456 := by decide
  have h10 : (2 : Nat) ^ 63 * 2 ^ 63 = 85070591730234615865843651857942052864 := by decide
  have h12 : 13043817825332782212 * (2 * 2 ^ 63) = 240615969168004511538585310832300654592 := by decide
  omega
theorem rootS_end (A : Nat) (hA : A < 2 ^ 127) : (rootS A 64).1 < 2 ^ 127 ∧ (rootS A 64).2 < 2 ^ 64 := by
  obtain ⟨R, h1, h2, h3⟩ := rootS_inv A (Nat.lt_trans hA (by decide)) 64 (by decide)
  simp only [show 64 - 64 = 0 from rfl, Nat.pow_zero, Nat.mul_one] at h1 h3
  rw [h1]
  refine ⟨by omega, ?_⟩
  rcases Nat.lt_or_ge R (2 ^ 64) with h | h
  · exact h
  · have h4 : 2 ^ 64 * 2 ^ 64 ≤ R * R := Nat.mul_le_mul h h
    have h5 : (2 : Nat) ^ 127 = 170141183460469231731687303715884105728 := by decide
    have h6 : (2 : Nat) ^ 64 * 2 ^ 64 = 340282366920938463463374607431768211456 := by decide
    omega
end Go.Proofs.Ytgpnopiinogkmaa
/- Plain numbers: what the scalars of package fx come to. No program here. -/
namespace Go.Proofs.Ytgpnopiinogkmaa

def B64 : Int := 18446744073709551616
/-- The upper and the lower half of a number of 128 bits. -/
def hi64 (x : Int) : Int := x / 18446744073709551616
def lo64 (x : Int) : Int := x % 18446744073709551616
theorem hilo (x : Int) : hi64 x * 18446744073709551616 + lo64 x = x := by unfold hi64 lo64; omega
theorem lo64_bd (x : Int) : 0 ≤ lo64 x ∧ lo64 x < 18446744073709551616 := by unfold lo64; omega
def nt (x : Int) : Int := 18446744073709551615 - x
theorem nt_bd {x : Int} (h0 : 0 ≤ x) (h1 : x < 18446744073709551616) : 0 ≤ nt x ∧ nt x < 18446744073709551616 := by unfold nt; omega
def clampV (a lo hi : Int) : Int := if hi < lo then lo else if a < lo then lo else if hi < a then hi else a
def clampH (a lo hi : Int) : Bool := decide (hi < lo) || (decide (a < lo) || decide (hi < a))
def satV (a : Int) : Int := clampV a (-1152921504606846976) 1152921504606846976
def satH (a : Int) : Bool := clampH a (-1152921504606846976) 1152921504606846976
/-- Divided, rounded: of two the one farther from nought. -/
def rdiv (a d : Int) : Int :=
  if (0 ≤ a) = (0 < d) then (((2 * a.natAbs + d.natAbs) / (2 * d.natAbs) : Nat) : Int) else -(((2 * a.natAbs + d.natAbs) / (2 * d.natAbs) : Nat) : Int)
/-- Divided by 2^s, rounded. -/
def rsh (a : Int) (s : Nat) : Int := rdiv a (2 ^ s)

theorem satV_bd (a : Int) : -1152921504606846976 ≤ satV a ∧ satV a ≤ 1152921504606846976 := by
  unfold satV clampV; repeat' split
  all_goals omega
theorem satV_id {a : Int} (h1 : -1152921504606846976 ≤ a) (h2 : a ≤ 1152921504606846976) : satV a = a := by
  unfold satV clampV; repeat' split
  all_goals omega
theorem satH_no {a : Int} (h1 : -1152921504606846976 ≤ a) (h2 : a ≤ 1152921504606846976) : satH a = false := by
  unfold satH clampH; simp; omega
end Go.Proofs.Ytgpnopiinogkmaa
/- Plain numbers (2): Mul, Div, MulDiv as numbers. -/
namespace Go.Proofs.Ytgpnopiinogkmaa
def mulV (a b s : Int) : Int := if s < 0 ∨ 120 < s then 0 else satV (rsh (satV a * satV b) s.toNat)
def mulH (a b s : Int) : Bool := satH a || satH b || (decide (s < 0 ∨ 120 < s) || satH (rsh (satV a * satV b) s.toNat))
/-- Divided; by nought: the bound on the number's side. -/
def byV (x d : Int) : Int := if d = 0 then (if x = 0 then 0 else if x < 0 then -1152921504606846976 else 1152921504606846976) else satV (rdiv x d)
def byH (x d : Int) : Bool := decide (d = 0) || satH (rdiv x d)
def divV (a b s : Int) : Int := if s < 0 ∨ 66 < s then 0 else byV (satV a * 2 ^ s.toNat) (satV b)
def divH (a b s : Int) : Bool := satH a || satH b || (decide (s < 0 ∨ 66 < s) || byH (satV a * 2 ^ s.toNat) (satV b))
def mdivV (a b d : Int) : Int := byV (satV a * satV b) (satV d)
def mdivH (a b d : Int) : Bool := satH a || satH b || satH d || byH (satV a * satV b) (satV d)
/-- The sum of the products, and whether a number was clamped. -/
def dotS (A B : Nat → Int) : Nat → Int | 0 => 0 | n + 1 => dotS A B n + satV (A n) * satV (B n)
def dotB (A B : Nat → Int) : Nat → Bool | 0 => false | n + 1 => dotB A B n || satH (A n) || satH (B n)
def dotV (s : Int) (A B : Nat → Int) (n : Nat) : Int := if s < 0 ∨ 120 < s then 0 else satV (rsh (dotS A B n) s.toNat)
def dotH (s : Int) (A B : Nat → Int) (n : Nat) : Bool := if s < 0 ∨ 120 < s then true else dotB A B n || satH (rsh (dotS A B n) s.toNat)
/-- The sum of clamped numbers. -/
def sumS (A : Nat → Int) : Nat → Int | 0 => 0 | n + 1 => sumS A n + satV (A n)
def sumB (A : Nat → Int) : Nat → Bool | 0 => false | n + 1 => sumB A n || satH (A n)
theorem sumS_bd (A : Nat → Int) (n : Nat) : -(n * 1152921504606846976 : Int) ≤ sumS A n ∧ sumS A n ≤ (n * 1152921504606846976 : Int) := by
  induction n with
  | zero => simp [sumS]
  | succ n ih =>
    have := satV_bd (A n)
    simp only [sumS]
    omega
theorem prod_bd (a b : Int) : -1329227995784915872903807060280344576 ≤ satV a * satV b ∧ satV a * satV b ≤ 1329227995784915872903807060280344576 := by
  have ha := satV_bd a
  have hb := satV_bd b
  generalize satV a = x at *
  generalize satV b = y at *
  have e : ((x * y).natAbs : Int) ≤ 1152921504606846976 * 1152921504606846976 := by
    rw [Int.natAbs_mul, Int.natCast_mul]
    exact Int.mul_le_mul (by omega) (by omega) (by omega) (by decide)
  omega
theorem dotS_bd (A B : Nat → Int) (n : Nat) : -(n * 1329227995784915872903807060280344576 : Int) ≤ dotS A B n ∧ dotS A B n ≤ (n * 1329227995784915872903807060280344576 : Int) := by
  induction n with
  | zero => simp [dotS]
  | succ n ih =>
    have := prod_bd (A n) (B n)
    simp only [dotS]
    omega
theorem shift_bd (a s : Int) (_s0 : 0 ≤ s) (s1 : s ≤ 66) : -85070591730234615865843651857942052864 ≤ satV a * 2 ^ s.toNat ∧ satV a * 2 ^ s.toNat ≤ 85070591730234615865843651857942052864 := by
  have ha := satV_bd a
  generalize satV a = x at *
  have h : (2 : Nat) ^ s.toNat ≤ 2 ^ 66 := Nat.pow_le_pow_right (by decide) (by omega)
  have h3 : (2 : Nat) ^ 66 = 73786976294838206464 := by decide
  have h2 : ((2 ^ s.toNat : Nat) : Int) = 2 ^ s.toNat := by simp
  have e : ((x * 2 ^ s.toNat).natAbs : Int) ≤ 1152921504606846976 * 73786976294838206464 := by
    rw [Int.natAbs_mul, Int.natCast_mul, ← h2, Int.natAbs_natCast]
    exact Int.mul_le_mul (by omega) (by omega) (Int.natCast_nonneg _) (by decide)
  omega
theorem rdiv_sign (x d : Int) (h : rdiv x d ≠ 0) : rdiv x d < 0 ↔ ¬ ((0 ≤ x) = (0 < d)) := by
  unfold rdiv at *
  have h1 : (0 : Int) ≤ (((2 * x.natAbs + d.natAbs) / (2 * d.natAbs) : Nat) : Int) := Int.natCast_nonneg _
  generalize (((2 * x.natAbs + d.natAbs) / (2 * d.natAbs) : Nat) : Int) = q at *
  by_cases hc : (0 ≤ x) = (0 < d)
  · rw [if_pos hc] at *; simp [hc]; omega
  · rw [if_neg hc] at *; simp [hc]; omega
end Go.Proofs.Ytgpnopiinogkmaa
/- thornton.Step's numbers: one elimination, and all of them. No program. -/
namespace Go.Proofs.Ytgpnopiinogkmaa
def upd (f : Nat → Int) (j : Nat) (v : Int) : Nat → Int := fun i => if i = j then v else f i
/-- Is one of the first n so? -/
def orB (p : Nat → Bool) : Nat → Bool | 0 => false | n + 1 => orB p n || p n
def varV (a : Int) : Int := clampV a 1 72057594037927936
def varH (a : Int) : Bool := clampH a 1 72057594037927936
def subV (a b : Int) : Int := satV (satV a - satV b)
def subH (a b : Int) : Bool := satH a || satH b || satH (satV a - satV b)
/-- Row i of a matrix of n columns. -/
def rowF (n : Nat) (F : Nat → Int) (i : Nat) : Nat → Int := fun m => F (i * n + m)
/-- One elimination, row j. -/
def stY (W e : Nat → Int) (j : Nat) : Nat → Int := fun k => mulV (W (j * 48 + k)) (e k) 30
def stD (W e : Nat → Int) (j : Nat) : Int := varV (dotV 30 (rowF 48 W j) (stY W e j) 48)
def stU (W e : Nat → Int) (j i : Nat) : Int := divV (dotV 30 (rowF 48 W i) (stY W e j) 48) (stD W e j) 30
def elV (W : Nat → Int) (u : Int) (j i k : Nat) : Int := subV (W (i * 48 + k)) (mulV u (W (j * 48 + k)) 30)
def elB (W : Nat → Int) (u : Int) (j i k : Nat) : Bool := mulH u (W (j * 48 + k)) 30 || subH (W (i * 48 + k)) (mulV u (W (j * 48 + k)) 30)
/-- m rows are done, and of row m the first kk numbers. -/
def elW (W e : Nat → Int) (j m kk : Nat) : Nat → Int := fun x => if x / 48 < m ∨ (x / 48 = m ∧ x % 48 < kk) then elV W (stU W e j (x / 48)) j (x / 48) (x % 48) else W x
def yB (W e : Nat → Int) (j k : Nat) : Bool := mulH (W (j * 48 + k)) (e k) 30
def dB (W e : Nat → Int) (j : Nat) : Bool := dotH 30 (rowF 48 W j) (stY W e j) 48 || varH (dotV 30 (rowF 48 W j) (stY W e j) 48)
def uB (W e : Nat → Int) (j i : Nat) : Bool := dotH 30 (rowF 48 W i) (stY W e j) 48 || divH (dotV 30 (rowF 48 W i) (stY W e j) 48) (stD W e j) 30
def rowB (W e : Nat → Int) (j i : Nat) : Bool := uB W e j i || orB (elB W (stU W e j i) j i) 48
def stageH (W e : Nat → Int) (j : Nat) : Bool := orB (yB W e j) 48 || dB W e j || orB (rowB W e j) j
/-- n eliminations are done: of rows 23, 22, .. -/
def WN (W e : Nat → Int) : Nat → Nat → Int | 0 => W | n + 1 => elW (WN W e n) e (23 - n) (23 - n) 0
def HN (W e : Nat → Int) : Nat → Bool | 0 => false | n + 1 => HN W e n || stageH (WN W e n) e (23 - n)
def addV (a b : Int) : Int := satV (satV a + satV b)
def addH (a b : Int) : Bool := satH a || satH b || satH (satV a + satV b)
def two (x y : Int) : Nat → Int := fun i => if i = 0 then x else y
theorem add2 (x y : Int) (h : Bool) : satV (sumS (two x y) 2) = addV x y ∧ (h || sumB (two x y) 2 || satH (sumS (two x y) 2)) = (h || addH x y) := by
  have e : sumS (two x y) 2 = satV x + satV y := by simp [sumS, two]
  rw [e]
  refine ⟨rfl, ?_⟩
  simp [sumB, two, addH, Bool.or_assoc]
end Go.Proofs.Ytgpnopiinogkmaa
/- Plain numbers: Hypot, Unit: what they come to, and that Unit's answer has the length One. No program. -/
namespace Go.Proofs.Ytgpnopiinogkmaa
/-- The root of the sum of the squares (of at most 64 numbers). -/
def hypV (A : Nat → Int) (n : Nat) : Int := satV (rootV (dotS A A n).toNat : Nat)
def hypH (A : Nat → Int) (n : Nat) : Bool := orB (fun i => satH (A i)) n || satH (rootV (dotS A A n).toNat : Nat)
def uniT (A : Nat → Int) : Nat → Int := fun i => divV (A i) (hypV A 4) 30
def uniTH (A : Nat → Int) : Bool := hypH A 4 || orB (fun i => divH (A i) (hypV A 4) 30) 4
def satA (A : Nat → Int) : Nat → Int := fun i => satV (A i)
def oneQ : Nat → Int := fun i => if i = 0 then 1073741824 else 0
def zer4 (A : Nat → Int) : Bool := decide (A 0 = 0) && decide (A 1 = 0) && decide (A 2 = 0) && decide (A 3 = 0)
def uniV (A : Nat → Int) : Nat → Int := if zer4 (satA A) = true then oneQ else uniT (uniT (satA A))
def uniH (A : Nat → Int) : Bool := orB (fun i => satH (A i)) 4 || (if zer4 (satA A) = true then false else uniTH (satA A) || uniTH (uniT (satA A)))
/-- Within a little of the length One. -/
def UnitQ (q : Nat → Int) : Prop := (∀ i, i < 4 → -1073741840 ≤ q i ∧ q i ≤ 1073741840) ∧
  -4294967296 ≤ q 0 * q 0 + q 1 * q 1 + q 2 * q 2 + q 3 * q 3 - 1152921504606846976 ∧ q 0 * q 0 + q 1 * q 1 + q 2 * q 2 + q 3 * q 3 - 1152921504606846976 ≤ 4294967296
theorem sq_nonneg (a : Int) : 0 ≤ a * a := by
  rcases Int.le_total 0 a with h | h
  · exact Int.mul_nonneg h h
  · exact Int.mul_nonneg_of_nonpos_of_nonpos h h
theorem int_lt_or_ge (a b : Int) : a < b ∨ b ≤ a := by omega
theorem abs_le_of_sq {a R : Int} (hR : 0 ≤ R) (h : a * a ≤ R * R + R) : -R ≤ a ∧ a ≤ R := by
  constructor
  · rcases int_lt_or_ge a (-R) with h1 | h1
    · have h2 : (R + 1) * (R + 1) ≤ (-a) * (-a) := Int.mul_le_mul (by omega) (by omega) (by omega) (by omega)
      have e1 : (R + 1) * (R + 1) = R * R + 2 * R + 1 := by grind
      have e2 : (-a) * (-a) = a * a := by grind
      omega
    · exact h1
  · rcases int_lt_or_ge R a with h1 | h1
    · have h2 : (R + 1) * (R + 1) ≤ a * a := Int.mul_le_mul (by omega) (by omega) (by omega) (by omega)
      have e1 : (R + 1) * (R + 1) = R * R + 2 * R + 1 := by grind
      omega
    · exact h1
/-- A division, rounded: within a half. -/
theorem rdivU_err (a n : Int) (hn : 0 < n) : -n ≤ 2 * (rdiv a n * n - a) ∧ 2 * (rdiv a n * n - a) ≤ n := by
  obtain ⟨d, rfl⟩ := Int.eq_ofNat_of_zero_le (Int.le_of_lt hn)
  have hd : 0 < d := by omega
  have hm := Nat.div_add_mod (2 * a.natAbs + d) (2 * d)
  have hr := Nat.mod_lt (2 * a.natAbs + d) (show 0 < 2 * d by omega)
  unfold rdiv
  simp only [Int.natAbs_natCast]
  generalize (2 * a.natAbs + d) % (2 * d) = r at *
  generalize (2 * a.natAbs + d) / (2 * d) = q at *
  have hm' : (2 * (d : Int)) * q + r = 2 * a.natAbs + d := by exact_mod_cast hm
  by_cases h0 : 0 ≤ a
  · rw [if_pos (by simp [h0, hd])]
    have e : (q : Int) * d = d * q := Int.mul_comm _ _
    rw [e]
    have : (a.natAbs : Int) = a := by omega
    rw [this, Int.mul_assoc] at hm'
    omega
  · rw [if_neg (by simp [h0, hd])]
    have e : -(q : Int) * d = -(d * q) := by grind
    rw [e]
    have : (a.natAbs : Int) = -a := by omega
    rw [this, Int.mul_assoc] at hm'
    omega
theorem rdivU_le {a n B : Int} (hn : 0 < n) (h1 : -(B * n) ≤ a) (h2 : a ≤ B * n) : -B ≤ rdiv a n ∧ rdiv a n ≤ B := by
  obtain ⟨e1, e2⟩ := rdivU_err a n hn
  generalize rdiv a n = q at *
  constructor
  · rcases int_lt_or_ge q (-B) with h | h
    · have : q * n ≤ (-B - 1) * n := Int.mul_le_mul_of_nonneg_right (by omega) (by omega)
      have e : (-B - 1) * n = -(B * n) - n := by grind
      omega
    · exact h
  · rcases int_lt_or_ge B q with h | h
    · have : (B + 1) * n ≤ q * n := Int.mul_le_mul_of_nonneg_right (by omega) (by omega)
      have e : (B + 1) * n = B * n + n := by grind
      omega
    · exact h
/-- Four numbers: their sizes' sum. -/
theorem sum4_le {a b c d R : Int} (hR : 0 ≤ R) (h : a * a + b * b + c * c + d * d ≤ R * R + R) : a + b + c + d ≤ 2 * R := by
  have h1 := sq_nonneg (a - b)
  have h2 := sq_nonneg (a - c)
  have h3 := sq_nonneg (a - d)
  have h4 := sq_nonneg (b - c)
  have h5 := sq_nonneg (b - d)
  have h6 := sq_nonneg (c - d)
  have e : (a + b + c + d) * (a + b + c + d) + ((a - b) * (a - b) + (a - c) * (a - c) + (a - d) * (a - d) + (b - c) * (b - c) + (b - d) * (b - d) + (c - d) * (c - d)) = 4 * (a * a + b * b + c * c + d * d) := by grind
  rcases int_lt_or_ge (2 * R) (a + b + c + d) with h7 | h7
  · have h8 : (2 * R + 1) * (2 * R + 1) ≤ (a + b + c + d) * (a + b + c + d) := Int.mul_le_mul (by omega) (by omega) (by omega) (by omega)
    have e2 : (2 * R + 1) * (2 * R + 1) = 4 * (R * R) + 4 * R + 1 := by grind
    omega
  · exact h7
theorem bound_mul {e q n : Int} (h1 : -n ≤ 2 * e) (h2 : 2 * e ≤ n) : -(n * (q.natAbs : Int)) ≤ 2 * (q * e) ∧ 2 * (q * e) ≤ n * (q.natAbs : Int) := by
  have hn : 0 ≤ n := by omega
  rcases Int.le_total 0 q with h | h
  · have : (q.natAbs : Int) = q := by omega
    rw [this]
    have k1 := Int.mul_le_mul_of_nonneg_left h2 h
    have k2 := Int.mul_le_mul_of_nonneg_left h1 h
    have e1 : q * (2 * e) = 2 * (q * e) := by grind
    have e2 : q * -n = -(n * q) := by grind
    have e3 : q * n = n * q := by grind
    omega
  · have : (q.natAbs : Int) = -q := by omega
    rw [this]
    have k1 := Int.mul_le_mul_of_nonneg_left h2 (show 0 ≤ -q by omega)
    have k2 := Int.mul_le_mul_of_nonneg_left h1 (show 0 ≤ -q by omega)
    have e1 : -q * (2 * e) = -(2 * (q * e)) := by grind
    have e2 : -q * -n = -(n * -q) := by grind
    have e3 : -q * n = n * -q := by grind
    omega
theorem sq_half {e n : Int} (h1 : -n ≤ 2 * e) (h2 : 2 * e ≤ n) : 4 * (e * e) ≤ n * n := by
  have k1 : 0 ≤ (n - 2 * e) * (n + 2 * e) := Int.mul_nonneg (by omega) (by omega)
  have e1 : (n - 2 * e) * (n + 2 * e) = n * n - 4 * (e * e) := by grind
  omega
/-- One turn of Unit's loop: what the squares come to. a: the numbers ahead, q: behind, n: the divisor, R: the root. -/
theorem uni_step {a0 a1 a2 a3 q0 q1 q2 q3 n R : Int} (hn : 0 < n) (hR : 0 ≤ R)
    (u0 : -n ≤ 2 * (q0 * n - a0 * 1073741824) ∧ 2 * (q0 * n - a0 * 1073741824) ≤ n) (u1 : -n ≤ 2 * (q1 * n - a1 * 1073741824) ∧ 2 * (q1 * n - a1 * 1073741824) ≤ n)
    (u2 : -n ≤ 2 * (q2 * n - a2 * 1073741824) ∧ 2 * (q2 * n - a2 * 1073741824) ≤ n) (u3 : -n ≤ 2 * (q3 * n - a3 * 1073741824) ∧ 2 * (q3 * n - a3 * 1073741824) ≤ n)
    (hS : a0 * a0 + a1 * a1 + a2 * a2 + a3 * a3 ≤ R * R + R) :
    -(2147483648 * (n * R)) ≤ (q0 * q0 + q1 * q1 + q2 * q2 + q3 * q3) * (n * n) - 1152921504606846976 * (a0 * a0 + a1 * a1 + a2 * a2 + a3 * a3) ∧
    (q0 * q0 + q1 * q1 + q2 * q2 + q3 * q3) * (n * n) - 1152921504606846976 * (a0 * a0 + a1 * a1 + a2 * a2 + a3 * a3) ≤ 2147483648 * (n * R) + n * n := by
  obtain ⟨e0, h0⟩ : ∃ e, q0 * n - a0 * 1073741824 = e := ⟨_, rfl⟩
  obtain ⟨e1, h1⟩ : ∃ e, q1 * n - a1 * 1073741824 = e := ⟨_, rfl⟩
  obtain ⟨e2, h2⟩ : ∃ e, q2 * n - a2 * 1073741824 = e := ⟨_, rfl⟩
  obtain ⟨e3, h3⟩ : ∃ e, q3 * n - a3 * 1073741824 = e := ⟨_, rfl⟩
  rw [h0] at u0
  rw [h1] at u1
  rw [h2] at u2
  rw [h3] at u3
  have b0 := bound_mul (q := a0) u0.1 u0.2
  have b1 := bound_mul (q := a1) u1.1 u1.2
  have b2 := bound_mul (q := a2) u2.1 u2.2
  have b3 := bound_mul (q := a3) u3.1 u3.2
  have s0 := sq_half u0.1 u0.2
  have s1 := sq_half u1.1 u1.2
  have s2 := sq_half u2.1 u2.2
  have s3 := sq_half u3.1 u3.2
  have t0 := sq_nonneg e0
  have t1 := sq_nonneg e1
  have t2 := sq_nonneg e2
  have t3 := sq_nonneg e3
  have hs : (a0.natAbs : Int) + a1.natAbs + a2.natAbs + a3.natAbs ≤ 2 * R := by
    apply sum4_le hR
    have f : ∀ x : Int, (x.natAbs : Int) * x.natAbs = x * x := fun x => by rw [← Int.natCast_mul, Int.natAbs_mul_self]
    rw [f, f, f, f]; exact hS
  have hm : n * ((a0.natAbs : Int) + a1.natAbs + a2.natAbs + a3.natAbs) ≤ n * (2 * R) := Int.mul_le_mul_of_nonneg_left hs (by omega)
  have hm1 : n * ((a0.natAbs : Int) + a1.natAbs + a2.natAbs + a3.natAbs) = n * a0.natAbs + n * a1.natAbs + n * a2.natAbs + n * a3.natAbs := by grind
  have hm2 : n * (2 * R) = 2 * (n * R) := by grind
  have g0 : q0 * n = a0 * 1073741824 + e0 := by omega
  have g1 : q1 * n = a1 * 1073741824 + e1 := by omega
  have g2 : q2 * n = a2 * 1073741824 + e2 := by omega
  have g3 : q3 * n = a3 * 1073741824 + e3 := by omega
  have ex : (q0 * q0 + q1 * q1 + q2 * q2 + q3 * q3) * (n * n) = (q0 * n) * (q0 * n) + (q1 * n) * (q1 * n) + (q2 * n) * (q2 * n) + (q3 * n) * (q3 * n) := by grind
  have eq : ∀ a e : Int, (a * 1073741824 + e) * (a * 1073741824 + e) = 1152921504606846976 * (a * a) + 2147483648 * (a * e) + e * e := fun a e => by grind
  rw [ex, g0, g1, g2, g3, eq, eq, eq, eq]
  rw [hm1, hm2] at hm
  omega
end Go.Proofs.Ytgpnopiinogkmaa
/- The product of quaternions, the matrix of one, as the program's numbers. No program. -/
namespace Go.Proofs.Ytgpnopiinogkmaa
def q4 (a b c d : Int) : Nat → Int := fun i => if i = 0 then a else if i = 1 then b else if i = 2 then c else d
def qmR (B : Nat → Int) : Nat → Nat → Int
  | 0 => q4 (B 0) (-B 1) (-B 2) (-B 3)
  | 1 => q4 (B 1) (B 0) (B 3) (-B 2)
  | 2 => q4 (B 2) (-B 3) (B 0) (B 1)
  | _ => q4 (B 3) (B 2) (-B 1) (B 0)
def qmV (A B : Nat → Int) : Nat → Int := fun r => dotV 30 (satA A) (qmR (satA B) r) 4
def qmH (A B : Nat → Int) : Bool := orB (fun i => satH (A i)) 4 || orB (fun i => satH (B i)) 4 || orB (fun r => dotH 30 (satA A) (qmR (satA B) r) 4) 4
/-- The numbers of the matrix: nine sums of products of the clamped quaternion. -/
def roA (q : Nat → Int) : Nat → Nat → Int
  | 0 => q | 4 => q | 8 => q
  | 1 => q4 (q 1) (q 1) (-q 0) (-q 0)
  | 2 => q4 (q 1) (q 1) (q 0) (q 0)
  | 3 => q4 (q 1) (q 1) (q 0) (q 0)
  | 5 => q4 (q 2) (q 2) (-q 0) (-q 0)
  | 6 => q4 (q 1) (q 1) (-q 0) (-q 0)
  | _ => q4 (q 2) (q 2) (q 0) (q 0)
def roB (q : Nat → Int) : Nat → Nat → Int
  | 0 => q4 (q 0) (q 1) (-q 2) (-q 3)
  | 4 => q4 (q 0) (-q 1) (q 2) (-q 3)
  | 8 => q4 (q 0) (-q 1) (-q 2) (q 3)
  | 1 => q4 (q 2) (q 2) (q 3) (q 3)
  | 2 => q4 (q 3) (q 3) (q 2) (q 2)
  | 3 => q4 (q 2) (q 2) (q 3) (q 3)
  | 5 => q4 (q 3) (q 3) (q 1) (q 1)
  | 6 => q4 (q 3) (q 3) (q 2) (q 2)
  | _ => q4 (q 3) (q 3) (q 1) (q 1)
def roN (q : Nat → Int) (k : Nat) : Int := dotV 30 (roA q k) (roB q k) 4
def roNH (q : Nat → Int) (k : Nat) : Bool := dotH 30 (roA q k) (roB q k) 4
def roV (Q : Nat → Int) : Nat → Int := fun k => roN (satA Q) k
def roH (Q : Nat → Int) : Bool := orB (fun i => satH (Q i)) 4 || orB (roNH (satA Q)) 9
def apV (M V : Nat → Int) : Nat → Int := fun i => dotV 30 (fun k => M (3 * i + k)) V 3
def apH (M V : Nat → Int) : Bool := orB (fun i => dotH 30 (fun k => M (3 * i + k)) V 3) 3
end Go.Proofs.Ytgpnopiinogkmaa
/- Small laws on worlds: a call that may set one flag cell and makes new blocks ('Upd'). Plain: no program. -/
namespace Go.Proofs.Ytgpnopiinogkmaa
open Go.RowKit

theorem setCell_self (w : World) (c : Addr) (v : Value) (h : w.cell? c = some v) : w.setCell c v = w := by
  have hb := World.block_lt_of_cell? w c h
  have hg : w.heap[c.block]? = some w.heap[c.block] := by simp [hb]
  unfold World.cell? at h
  rw [hg] at h
  have hh : (w.setCell c v).heap = w.heap := by
    apply Array.ext_getElem?
    intro i
    simp only [World.setCell, Array.getElem?_modify]
    by_cases hi : c.block = i
    · subst hi
      rw [if_pos rfl, hg]
      cases hx : w.heap[c.block] with
      | cells cc e f =>
        rw [hx] at h
        simp only at h
        by_cases hs : c.spot.isSome
        · simp [hs] at h
        · simp only [hs, if_false, Bool.false_eq_true] at h
          simp only [Option.map_some, hs, if_false, Bool.false_eq_true]
          congr 2
          apply Array.ext_getElem?
          intro j
          rw [Array.getElem?_setIfInBounds]
          by_cases hj : c.off = j
          · subst hj
            rw [if_pos rfl]
            split
            · exact h.symm
            · rename_i hlt
              rw [Array.getElem?_eq_none (by omega)] at h; cases h
          · rw [if_neg hj]
      | _ => rw [hx] at h; simp at h
    · rw [if_neg hi]
  show ({ w with heap := (w.setCell c v).heap } : World) = w
  rw [hh]

/-- The flag's cell holds h now; what was there is else as it was; there may be new blocks. -/
def Upd (c : Addr) (h : Bool) (w w' : World) : Prop := Below w.heap.size (w.setCell c (.bool h)) w'

theorem setCell_size (w : World) (c : Addr) (v : Value) : (w.setCell c v).heap.size = w.heap.size := by simp [World.setCell]

theorem Upd.size {c : Addr} {h : Bool} {w w' : World} (u : Upd c h w w') : w.heap.size ≤ w'.heap.size := by
  have := Below.size u; rwa [setCell_size] at this
theorem Upd.block {c : Addr} {h : Bool} {w w' : World} (u : Upd c h w w') {k : Nat} (hk : k < w.heap.size) (hn : k ≠ c.block) : w'.heap[k]? = w.heap[k]? := by
  rw [Below.block u k hk]; exact Below.heap_setCell w c _ k hn
theorem Upd.cellc {c : Addr} {h h0 : Bool} {w w' : World} (u : Upd c h w w') (hc : w.cell? c = some (.bool h0)) : w'.cell? c = some (.bool h) := by
  have hb := World.block_lt_of_cell? w c hc
  rw [Below.cell u hb]; exact World.cell?_setCell_same _ _ _ hc
theorem Upd.cell {c : Addr} {h : Bool} {w w' : World} (u : Upd c h w w') {a : Addr} (ha : a.block < w.heap.size) (hn : c ≠ a) : w'.cell? a = w.cell? a := by
  rw [Below.cell u ha]; exact World.cell?_setCell_other w c a _ hn
theorem Upd.frozen {c : Addr} {h : Bool} {w w' : World} (u : Upd c h w w') {a : Addr} (ha : a.block < w.heap.size) : w'.frozen? a = w.frozen? a := by
  rw [Below.frozen u ha]; exact World.frozen?_setCell ..
theorem Upd.refl {c : Addr} {h : Bool} {w : World} (hc : w.cell? c = some (.bool h)) : Upd c h w w := by
  unfold Upd; rw [setCell_self w c _ hc]; exact Below.refl _ _
theorem Upd.set (c : Addr) (h : Bool) (w : World) : Upd c h w (w.setCell c (.bool h)) := Below.refl _ _
/-- Behind a call that leaves what was there. -/
theorem Upd.then {c : Addr} {h : Bool} {w w1 w2 : World} (u : Upd c h w w1) (b : Below w1.heap.size w1 w2) : Upd c h w w2 :=
  Below.trans u (b.mono u.size)
theorem Upd.then' {c : Addr} {h : Bool} {w w1 w2 : World} (u : Upd c h w w1) (b : Below w.heap.size w1 w2) : Upd c h w w2 :=
  Below.trans u b
theorem below_setCell2 {B : Nat} {w w1 : World} (b : Below B w w1) (c : Addr) (v : Value) : Below B (w.setCell c v) (w1.setCell c v) := by
  refine ⟨b.os, b.tape, b.output, by simp [World.setCell]; exact b.size, fun k hk => ?_⟩
  simp only [World.setCell, Array.getElem?_modify]
  rw [b.block k hk]
theorem Upd.after {c : Addr} {h : Bool} {w w1 w2 : World} (b : Below w.heap.size w w1) (u : Upd c h w1 w2) : Upd c h w w2 := by
  have := below_setCell2 b c (.bool h)
  exact this.trans (Below.mono u b.size)
theorem setCell_setCell (w : World) (c : Addr) (v v' : Value) : (w.setCell c v).setCell c v' = w.setCell c v' := by
  unfold World.setCell
  congr 1
  apply Array.ext_getElem?
  intro i
  simp only [Array.getElem?_modify]
  by_cases hi : c.block = i
  · subst hi
    simp only [if_pos]
    cases w.heap[c.block]? with
    | none => rfl
    | some o =>
      cases o <;> simp only [Option.map_some]
      split <;> simp_all
  · simp [hi]
theorem Upd.trans {c : Addr} {h h' : Bool} {w w1 w2 : World} (u : Upd c h w w1) (u' : Upd c h' w1 w2) : Upd c h' w w2 := by
  have b := below_setCell2 u c (.bool h')
  rw [setCell_setCell] at b
  exact b.trans (Below.mono u' u.size)
theorem Upd.alloc {c : Addr} {h : Bool} {w w1 : World} (u : Upd c h w w1) (o : Obj) : Upd c h w (w1.alloc o) := u.then' ((Below.refl _ _).alloc u.size o)
theorem Upd.drew {c : Addr} {h : Bool} {w w1 : World} (u : Upd c h w w1) : Upd c h w w1.drew := Below.drew u
theorem Upd.setCell {c : Addr} {h : Bool} {w w1 : World} (u : Upd c h w w1) {p : Addr} (hp : w.heap.size ≤ p.block) (v : Value) : Upd c h w (w1.setCell p v) := u.then' ((Below.refl _ _).setCell hp v)
theorem bcell {W w1 : World} (hb : Below W.heap.size W w1) : (∀ b o, b < W.heap.size → w1.cell? ⟨b, o, none⟩ = W.cell? ⟨b, o, none⟩) ∧ (∀ b o, b < W.heap.size → w1.frozen? ⟨b, o, none⟩ = W.frozen? ⟨b, o, none⟩) :=
  ⟨fun b o h => hb.cell (p := ⟨b, o, none⟩) h, fun b o h => hb.frozen (p := ⟨b, o, none⟩) h⟩
theorem Below.after {w w1 w2 : World} (b : Below w.heap.size w w1) (b' : Below w1.heap.size w1 w2) : Below w.heap.size w w2 := b.trans (b'.mono b.size)
theorem retI {k : IntKind} {a b : Int} (h : a = b) : Ending.returned (.int k a) = .returned (.int k b) := by rw [h]
end Go.Proofs.Ytgpnopiinogkmaa
/- Contracts of package wide. -/
/- Contracts of package wide (2). -/
/- Contracts of package wide (3). -/
namespace Go.Proofs.Ytgpnopiinogkmaa
open Go.RowKit

theorem not64 (x : Int) (h0 : 0 ≤ x) (h1 : x < 18446744073709551616) : bits .xor .u64 IntKind.u64.max x = nt x := by
  obtain ⟨a, rfl⟩ := Int.eq_ofNat_of_zero_le h0
  show IntKind.u64.wrap ((BitVec.ofInt 64 IntKind.u64.max ^^^ BitVec.ofInt 64 (a : Int)).toNat : Int) = _
  have h1 : BitVec.ofInt 64 IntKind.u64.max = BitVec.allOnes 64 := by decide
  rw [h1, BitVec.allOnes_xor, BitVec.toNat_not, ofInt_u64 a (by omega), IntKind.wrap_u64]
  unfold nt
  omega
theorem add64 (x y c : Int) (hx : 0 ≤ x) (hy : 0 ≤ y) (hc0 : 0 ≤ c) (hc : c ≤ 1) (w : World) : (callFunc 74 #[.int .u64 x, .int .u64 y, .int .u64 c]).run Try.prog w =
    .ok (.value (.tuple #[.int .u64 (lo64 (x + y + c)), .int .u64 (hi64 (x + y + c))])) w := by
  rw [run_callFunc_extern Try.func74 (by kernel_rfl) (by kernel_rfl) (by kernel_rfl) (e := add64Entry) (by kernel_rfl), run_add64 x y c hx hy hc0 hc]
  rfl
theorem add64_0 (x y : Int) (hx : 0 ≤ x) (hy : 0 ≤ y) (w : World) : (callFunc 74 #[.int .u64 x, .int .u64 y, .int .u64 0]).run Try.prog w =
    .ok (.value (.tuple #[.int .u64 (lo64 (x + y)), .int .u64 (hi64 (x + y))])) w := by
  simpa using add64 x y 0 hx hy (Int.le_refl 0) (by decide) w

theorem abs64_any (a : Int) (w : World) (h1 : -9223372036854775808 ≤ a) (h2 : a < 9223372036854775808) :
    Calls Try.prog 57 #[.int .i64 a] w fun e w' => e = .returned (.int .u64 (a.natAbs : Int)) ∧ w = w' := by
  by_cases h : a < 0
  · go_enter Try.func57, Try.ntmps57
    go_wp2
    go_ret
    exact ⟨retI (by simp only [IntKind.wrap_u64]; omega), rfl⟩
  · go_enter Try.func57, Try.ntmps57
    go_wp2
    go_ret
    exact ⟨retI (by omega), rfl⟩


set_option maxRecDepth 100000
theorem signed_pos (x y : Int) (w : World) (x0 : 0 ≤ x) (x1 : x < 9223372036854775808) :
    Calls Try.prog 58 #[.agg #[.int .u64 x, .int .u64 y], .bool false] w fun e w' =>
      e = .returned (.tuple #[.agg #[.int .i64 x, .int .u64 y], .bool true]) ∧ Below w.heap.size w w' := by
  have hd : ((x / 9223372036854775808 : Int) == 0) = true := by rw [beq_iff_eq]; omega
  go_enter Try.func58, Try.ntmps58
  go_wp2_with fail
  go_region
  go_wp2
  refine bodyPost_ret (v := .tuple #[.agg #[.int .i64 x, .int .u64 y], .bool true]) (by simp [results, Try.results58, go_sem]) rfl ⟨rfl, ?_⟩
  (repeat (first | with_reducible exact Below.refl _ _ | with_reducible apply Below.drew | (with_reducible refine below_drewN ?_ _) | (with_reducible refine Below.alloc ?_ (by (try simp) <;> omega) _) | (with_reducible refine Below.setCell ?_ (by (try simp) <;> omega) _)))

theorem neg_parts (x y : Int) (x0 : 0 ≤ x) (x1 : x < 9223372036854775808) (y0 : 0 ≤ y) (y1 : y < 18446744073709551616) :
    wrap64 (IntKind.u64.wrap (nt x + hi64 (nt y + 1))) = hi64 (-(x * B64 + y)) ∧ lo64 (nt y + 1) = lo64 (-(x * B64 + y)) := by
  simp only [IntKind.wrap_u64, wrap64]
  unfold hi64 lo64 nt B64
  omega

theorem signed_neg (x y : Int) (w : World) (x0 : 0 ≤ x) (x1 : x < 9223372036854775808) (y0 : 0 ≤ y) (y1 : y < 18446744073709551616) :
    Calls Try.prog 58 #[.agg #[.int .u64 x, .int .u64 y], .bool true] w fun e w' =>
      e = .returned (.tuple #[.agg #[.int .i64 (hi64 (-(x * B64 + y))), .int .u64 (lo64 (-(x * B64 + y)))], .bool true]) ∧ Below w.heap.size w w' := by
  have n1 := not64 y y0 y1
  have n2 := not64 x x0 (by omega)
  have b1 := (nt_bd y0 y1).1
  have a1 := fun w => add64_0 (nt y) 1 b1 (by decide) w
  obtain ⟨e1, e2⟩ := neg_parts x y x0 x1 y0 y1
  by_cases hz : x = 0 ∧ y = 0
  · obtain ⟨rfl, rfl⟩ := hz
    have z1 : decide (hi64 0 < 0) = false := by simp [hi64]
    go_enter Try.func58, Try.ntmps58
    go_wp2_with fail
    go_region
    go_wp2
    refine bodyPost_ret (v := .tuple #[.agg #[.int .i64 (hi64 0), .int .u64 (lo64 0)], .bool true]) (by simp [results, Try.results58, go_sem]) rfl ⟨by simp, ?_⟩
    (repeat (first | with_reducible exact Below.refl _ _ | with_reducible apply Below.drew | (with_reducible refine below_drewN ?_ _) | (with_reducible refine Below.alloc ?_ (by (try simp) <;> omega) _) | (with_reducible refine Below.setCell ?_ (by (try simp) <;> omega) _)))
  · have z1 : hi64 (-(x * B64 + y)) < 0 := by unfold hi64 B64; omega
    clear y0 y1
    go_enter Try.func58, Try.ntmps58
    go_wp2_with fail
    go_region
    go_wp2
    refine bodyPost_ret (v := .tuple #[.agg #[.int .i64 (hi64 (-(x * B64 + y))), .int .u64 (lo64 (-(x * B64 + y)))], .bool true]) (by simp [results, Try.results58, go_sem]) rfl ⟨rfl, ?_⟩
    (repeat (first | with_reducible exact Below.refl _ _ | with_reducible apply Below.drew | (with_reducible refine below_drewN ?_ _) | (with_reducible refine Below.alloc ?_ (by (try simp) <;> omega) _) | (with_reducible refine Below.setCell ?_ (by (try simp) <;> omega) _)))

end Go.Proofs.Ytgpnopiinogkmaa
namespace Go.Proofs.Ytgpnopiinogkmaa
open Go.RowKit
set_option maxRecDepth 100000
/-- A W. -/
def Wv (x : Int) : Value := .agg #[.int .i64 (hi64 x), .int .u64 (lo64 x)]

theorem abs_pos (x y : Int) (w : World) (x0 : 0 ≤ x) (x1 : x < 9223372036854775808) :
    Calls Try.prog 75 #[.agg #[.int .i64 x, .int .u64 y]] w fun e w' =>
      e = .returned (.tuple #[.agg #[.int .u64 x, .int .u64 y], .bool false]) ∧ Below w.heap.size w w' := by
  go_enter Try.func75, Try.ntmps75
  go_wp2_with fail
  simp [bodyPost, results, Try.results75, go_sem]
  (repeat (first | with_reducible exact Below.refl _ _ | with_reducible apply Below.drew | (with_reducible refine below_drewN ?_ _) | (with_reducible refine Below.alloc ?_ (by (try simp) <;> omega) _) | (with_reducible refine Below.setCell ?_ (by (try simp) <;> omega) _)))
theorem abs_neg (x y : Int) (w : World) (x0 : x < 0) (x1 : -9223372036854775808 ≤ x) (y0 : 0 ≤ y) (y1 : y < 18446744073709551616) :
    Calls Try.prog 75 #[.agg #[.int .i64 x, .int .u64 y]] w fun e w' =>
      e = .returned (.tuple #[.agg #[.int .u64 (hi64 (-(x * B64 + y))), .int .u64 (lo64 (-(x * B64 + y)))], .bool true]) ∧ Below w.heap.size w w' := by
  have n1 := not64 y y0 y1
  have n2 := not64 (IntKind.u64.wrap x) (by simp only [IntKind.wrap_u64]; omega) (by simp only [IntKind.wrap_u64]; omega)
  have b1 := (nt_bd y0 y1).1
  have a1 := fun w => add64_0 (nt y) 1 b1 (by decide) w
  have hy : 0 ≤ y ∧ y < B64 := ⟨y0, y1⟩
  clear y0 y1
  go_enter Try.func75, Try.ntmps75
  go_wp2_with fail
  simp [bodyPost, results, Try.results75, go_sem]
  refine ⟨?_, ?_⟩
  · simp only [IntKind.wrap_u64]
    unfold hi64 lo64 nt B64
    clear n1 n2 b1 a1
    obtain ⟨y0, y1⟩ := hy
    unfold B64 at y1
    omega
  · (repeat (first | with_reducible exact Below.refl _ _ | with_reducible apply Below.drew | (with_reducible refine below_drewN ?_ _) | (with_reducible refine Below.alloc ?_ (by (try simp) <;> omega) _) | (with_reducible refine Below.setCell ?_ (by (try simp) <;> omega) _)))

end Go.Proofs.Ytgpnopiinogkmaa
namespace Go.Proofs.Ytgpnopiinogkmaa
open Go.RowKit
set_option maxRecDepth 100000
def s64F (x y : Int) (neg : Bool) : Bool := decide (x = 0) && (if neg then decide (y ≤ 9223372036854775808) else decide (y ≤ 9223372036854775807))
def s64V (x y : Int) (neg : Bool) : Int := if s64F x y neg then (if neg then -y else y) else 0
theorem s64_big {x y : Int} {neg : Bool} (h : ¬ x = 0) : s64F x y neg = false ∧ s64V x y neg = 0 := by
  have : s64F x y neg = false := by simp [s64F, h]
  exact ⟨this, by simp [s64V, this]⟩
theorem s64_in {y : Int} {neg : Bool} (h : y < 9223372036854775808) : s64F 0 y neg = true ∧ s64V 0 y neg = if neg then -y else y := by
  have : s64F 0 y neg = true := by cases neg <;> simp [s64F] <;> omega
  exact ⟨this, by simp [s64V, this]⟩
theorem s64_out {y : Int} {neg : Bool} (h : 9223372036854775808 < y) : s64F 0 y neg = false ∧ s64V 0 y neg = 0 := by
  have : s64F 0 y neg = false := by cases neg <;> simp [s64F] <;> omega
  exact ⟨this, by simp [s64V, this]⟩

theorem signed64_any (x y : Int) (neg : Bool) (w : World) (y0 : 0 ≤ y) (y1 : y < 18446744073709551616) :
    Calls Try.prog 78 #[.agg #[.int .u64 x, .int .u64 y], .bool neg] w fun e w' =>
      e = .returned (.tuple #[.int .i64 (s64V x y neg), .bool (s64F x y neg)]) ∧ Below w.heap.size w w' := by
  by_cases hx : x = 0
  · subst hx
    by_cases h1 : y < 9223372036854775808
    · obtain ⟨e1, e2⟩ := s64_in (neg := neg) h1
      rw [e1, e2]
      clear e1 e2
      cases neg
      · have h2 : ¬ 9223372036854775807 < y := by omega
        go_enter Try.func78, Try.ntmps78
        go_wp2
        simp [bodyPost, results, Try.results78, go_sem]
        (repeat (first | with_reducible exact Below.refl _ _ | with_reducible apply Below.drew | (with_reducible refine below_drewN ?_ _) | (with_reducible refine Below.alloc ?_ (by (try simp) <;> omega) _) | (with_reducible refine Below.setCell ?_ (by (try simp) <;> omega) _)))
      · have h2 : ¬ 9223372036854775808 < y := by omega
        go_enter Try.func78, Try.ntmps78
        go_wp2
        simp [bodyPost, results, Try.results78, go_sem]
        refine ⟨?_, ?_⟩
        · simp only [IntKind.wrap_u64, wrap64]; omega
        · (repeat (first | with_reducible exact Below.refl _ _ | with_reducible apply Below.drew | (with_reducible refine below_drewN ?_ _) | (with_reducible refine Below.alloc ?_ (by (try simp) <;> omega) _) | (with_reducible refine Below.setCell ?_ (by (try simp) <;> omega) _)))
    · by_cases h3 : 9223372036854775808 < y
      · obtain ⟨e1, e2⟩ := s64_out (neg := neg) h3
        rw [e1, e2]
        clear e1 e2
        cases neg
        · have h2 : 9223372036854775807 < y := by omega
          go_enter Try.func78, Try.ntmps78
          go_wp2
          simp [bodyPost, results, Try.results78, go_sem]
          (repeat (first | with_reducible exact Below.refl _ _ | with_reducible apply Below.drew | (with_reducible refine below_drewN ?_ _) | (with_reducible refine Below.alloc ?_ (by (try simp) <;> omega) _) | (with_reducible refine Below.setCell ?_ (by (try simp) <;> omega) _)))
        · go_enter Try.func78, Try.ntmps78
          go_wp2
          simp [bodyPost, results, Try.results78, go_sem]
          (repeat (first | with_reducible exact Below.refl _ _ | with_reducible apply Below.drew | (with_reducible refine below_drewN ?_ _) | (with_reducible refine Below.alloc ?_ (by (try simp) <;> omega) _) | (with_reducible refine Below.setCell ?_ (by (try simp) <;> omega) _)))
      · have h4 : y = 9223372036854775808 := by omega
        subst h4
        cases neg
        · have e1 : s64F 0 9223372036854775808 false = false := by decide
          have e2 : s64V 0 9223372036854775808 false = 0 := by decide
          rw [e1, e2]
          clear e1 e2
          go_enter Try.func78, Try.ntmps78
          go_wp2
          simp [bodyPost, results, Try.results78, go_sem]
          (repeat (first | with_reducible exact Below.refl _ _ | with_reducible apply Below.drew | (with_reducible refine below_drewN ?_ _) | (with_reducible refine Below.alloc ?_ (by (try simp) <;> omega) _) | (with_reducible refine Below.setCell ?_ (by (try simp) <;> omega) _)))
        · have e1 : s64F 0 9223372036854775808 true = true := by decide
          have e2 : s64V 0 9223372036854775808 true = -9223372036854775808 := by decide
          rw [e1, e2]
          clear e1 e2
          go_enter Try.func78, Try.ntmps78
          go_wp2
          simp [bodyPost, results, Try.results78, go_sem]
          refine ⟨?_, ?_⟩
          · simp only [IntKind.wrap_u64, wrap64]; omega
          · (repeat (first | with_reducible exact Below.refl _ _ | with_reducible apply Below.drew | (with_reducible refine below_drewN ?_ _) | (with_reducible refine Below.alloc ?_ (by (try simp) <;> omega) _) | (with_reducible refine Below.setCell ?_ (by (try simp) <;> omega) _)))
  · obtain ⟨e1, e2⟩ := s64_big (y := y) (neg := neg) hx
    rw [e1, e2]
    clear e1 e2
    have hx' : (x == 0) = false := by simpa using hx
    go_enter Try.func78, Try.ntmps78
    go_wp2
    simp [bodyPost, results, Try.results78, go_sem]
    (repeat (first | with_reducible exact Below.refl _ _ | with_reducible apply Below.drew | (with_reducible refine below_drewN ?_ _) | (with_reducible refine Below.alloc ?_ (by (try simp) <;> omega) _) | (with_reducible refine Below.setCell ?_ (by (try simp) <;> omega) _)))
end Go.Proofs.Ytgpnopiinogkmaa
/- Contracts of package wide (4): shifts and sums of sizes. -/
namespace Go.Proofs.Ytgpnopiinogkmaa
open Go.RowKit
set_option maxRecDepth 100000

theorem pow_split (s : Nat) (h : s < 64) : 2 ^ s * 2 ^ (64 - s) = 18446744073709551616 := by
  rw [← Nat.pow_add, show s + (64 - s) = 64 from by omega]
theorem shr_hi_eq (x y s : Nat) (_h : s < 64) (_hy : y < 18446744073709551616) : (x * 18446744073709551616 + y) / 2 ^ s / 18446744073709551616 = x / 2 ^ s := by
  rw [Nat.div_div_eq_div_mul, Nat.mul_comm (2 ^ s), ← Nat.div_div_eq_div_mul]
  rw [show (x * 18446744073709551616 + y) / 18446744073709551616 = x from by omega]
theorem shr_lo_eq (x y s : Nat) (h : s < 64) (hy : y < 18446744073709551616) :
    (x * 18446744073709551616 + y) / 2 ^ s % 18446744073709551616 = (x * 2 ^ (64 - s) % 18446744073709551616) ||| (y / 2 ^ s) := by
  have hp : 0 < 2 ^ s := Nat.two_pow_pos s
  have e := pow_split s h
  have e1 : (x * 18446744073709551616 + y) / 2 ^ s = x * 2 ^ (64 - s) + y / 2 ^ s := by
    rw [← e, show x * (2 ^ s * 2 ^ (64 - s)) + y = 2 ^ s * (x * 2 ^ (64 - s)) + y from by rw [Nat.mul_left_comm], Nat.mul_add_div hp]
  have e2 : x * 2 ^ (64 - s) % 18446744073709551616 = 2 ^ (64 - s) * (x % 2 ^ s) := by
    rw [← e, Nat.mul_mod_mul_right, Nat.mul_comm]
  have e3 : y / 2 ^ s < 2 ^ (64 - s) := by
    rw [Nat.div_lt_iff_lt_mul hp, Nat.mul_comm, e]; exact hy
  rw [e1, Nat.add_mod, e2, Nat.mod_eq_of_lt (a := y / 2 ^ s) (by have : 2 ^ (64 - s) ≤ 18446744073709551616 := by rw [← e]; exact Nat.le_mul_of_pos_left _ hp
                                                                 omega)]
  rw [Nat.two_pow_add_eq_or_of_lt e3]
  apply Nat.mod_eq_of_lt
  rw [← Nat.two_pow_add_eq_or_of_lt e3]
  have h1 : x % 2 ^ s + 1 ≤ 2 ^ s := Nat.mod_lt _ hp
  calc 2 ^ (64 - s) * (x % 2 ^ s) + y / 2 ^ s < 2 ^ (64 - s) * (x % 2 ^ s) + 2 ^ (64 - s) := by omega
    _ = 2 ^ (64 - s) * (x % 2 ^ s + 1) := by rw [Nat.mul_add, Nat.mul_one]
    _ ≤ 2 ^ (64 - s) * 2 ^ s := Nat.mul_le_mul_left _ h1
    _ = 18446744073709551616 := by rw [Nat.mul_comm]; exact e

theorem bits_or_u64 (a b : Int) (ha0 : 0 ≤ a) (ha : a < 18446744073709551616) (hb0 : 0 ≤ b) (hb : b < 18446744073709551616) :
    bits .or .u64 a b = ((a.toNat ||| b.toNat : Nat) : Int) := by
  obtain ⟨a, rfl⟩ := Int.eq_ofNat_of_zero_le ha0
  obtain ⟨b, rfl⟩ := Int.eq_ofNat_of_zero_le hb0
  exact bits_or_u64_nat a b (by omega) (by omega)
theorem toNat_div_pow (y : Int) (k : Nat) (h : 0 ≤ y) : (y / 2 ^ k).toNat = y.toNat / 2 ^ k := by
  obtain ⟨y, rfl⟩ := Int.eq_ofNat_of_zero_le h
  have : ((y : Int) / 2 ^ k) = ((y / 2 ^ k : Nat) : Int) := by simp
  rw [this, Int.toNat_natCast, Int.toNat_natCast]
theorem div_pow_bd (y : Int) (k : Nat) (h : 0 ≤ y) (h1 : y < 18446744073709551616) : 0 ≤ y / 2 ^ k ∧ y / 2 ^ k < 18446744073709551616 := by
  obtain ⟨y, rfl⟩ := Int.eq_ofNat_of_zero_le h
  have : ((y : Int) / 2 ^ k) = ((y / 2 ^ k : Nat) : Int) := by simp
  rw [this]
  have := Nat.div_le_self y (2 ^ k)
  generalize y / 2 ^ k = z at *
  omega

/-- A size of 128 bits. -/
theorem shl_any (y s M : Int) (w : World) (y0 : 0 ≤ y) (y1 : y < 18446744073709551616) (s0 : 0 ≤ s) (s1 : s < 128) (hM : y * 2 ^ s.toNat = M) (hlt : M < 340282366920938463463374607431768211456) :
    Calls Try.prog 77 #[.agg #[.int .u64 0, .int .u64 y], .int .i64 s] w fun e w' =>
      e = .returned (.agg #[.int .u64 (hi64 M), .int .u64 (lo64 M)]) ∧ Below w.heap.size w w' := by
  have HM := Lib.hid hM
  clear hM
  by_cases h2 : 64 ≤ s
  · go_enter Try.func77, Try.ntmps77
    go_wp2
    simp [bodyPost, results, Try.results77, go_sem]
    refine ⟨?_, ?_⟩
    · have hM := HM.out
      obtain ⟨k, rfl⟩ : ∃ k : Nat, s = 64 + k := ⟨(s - 64).toNat, by omega⟩
      simp only [IntKind.wrap_u64]
      rw [show (64 + (k : Int) - 64).toNat = k from by omega]
      rw [show (64 + (k : Int)).toNat = 64 + k from by omega, Int.pow_add] at hM
      have hM' : M = (y * 2 ^ k) * 18446744073709551616 := by rw [← hM, Int.mul_comm (2 ^ 64), ← Int.mul_assoc]; rfl
      have h0 : 0 ≤ y * 2 ^ k := Int.mul_nonneg y0 (Int.le_of_lt (Int.pow_pos (by decide)))
      generalize y * 2 ^ k = z at *
      unfold hi64 lo64
      omega
    · (repeat (first | with_reducible exact Below.refl _ _ | with_reducible apply Below.drew | (with_reducible refine below_drewN ?_ _) | (with_reducible refine Below.alloc ?_ (by (try simp) <;> omega) _) | (with_reducible refine Below.setCell ?_ (by (try simp) <;> omega) _)))
  · have h3 : ¬ 64 - s < 0 := by omega
    have hb : bits .or .u64 0 (y / 2 ^ (64 - s).toNat) = hi64 M := by
      have hd := div_pow_bd y (64 - s).toNat y0 y1
      rw [bits_or_u64 _ _ (by decide) (by decide) hd.1 hd.2, toNat_div_pow _ _ y0]
      have hM := HM.out
      obtain ⟨k, rfl⟩ := Int.eq_ofNat_of_zero_le s0
      obtain ⟨y, rfl⟩ := Int.eq_ofNat_of_zero_le y0
      rw [show (64 - (k : Int)).toNat = 64 - k from by omega]
      simp at hM
      have e := pow_split k (by omega)
      have hp : 0 < 2 ^ (64 - k) := Nat.two_pow_pos _
      have : M = ((y * 2 ^ k : Nat) : Int) := by rw [← hM]; simp
      rw [this]
      have e2 : y * 2 ^ k / 18446744073709551616 = y / 2 ^ (64 - k) := by
        rw [← e, Nat.mul_comm y]; exact Nat.mul_div_mul_left _ _ (Nat.two_pow_pos k)
      unfold hi64
      simp only [Int.toNat_natCast, Int.toNat_zero, Nat.zero_or]
      generalize y * 2 ^ k = z at *
      omega
    have HB := Lib.hid hb
    clear hb
    go_enter Try.func77, Try.ntmps77
    go_wp2
    go_region
    go_wp2
    simp [bodyPost, results, Try.results77, go_sem]
    refine ⟨⟨HB.out, ?_⟩, ?_⟩
    · rw [HM.out, IntKind.wrap_u64]; rfl
    · (repeat (first | with_reducible exact Below.refl _ _ | with_reducible apply Below.drew | (with_reducible refine below_drewN ?_ _) | (with_reducible refine Below.alloc ?_ (by (try simp) <;> omega) _) | (with_reducible refine Below.setCell ?_ (by (try simp) <;> omega) _)))

theorem shr_any (x y s M R : Int) (w : World) (x0 : 0 ≤ x) (x1 : x < 18446744073709551616) (y0 : 0 ≤ y) (y1 : y < 18446744073709551616) (s0 : 0 ≤ s) (s1 : s < 128)
    (hM : x * 18446744073709551616 + y = M) (hR : M / 2 ^ s.toNat = R) :
    Calls Try.prog 79 #[.agg #[.int .u64 x, .int .u64 y], .int .i64 s] w fun e w' =>
      e = .returned (.agg #[.int .u64 (hi64 R), .int .u64 (lo64 R)]) ∧ Below w.heap.size w w' := by
  have HM := Lib.hid hM
  have HR := Lib.hid hR
  clear hM hR
  by_cases h2 : 64 ≤ s
  · have hr : hi64 R = 0 ∧ x / 2 ^ (s - 64).toNat = lo64 R := by
      have hM := HM.out
      have hR := HR.out
      obtain ⟨k, rfl⟩ : ∃ k : Nat, s = 64 + k := ⟨(s - 64).toNat, by omega⟩
      rw [show (64 + (k : Int) - 64).toNat = k from by omega]
      rw [show (64 + (k : Int)).toNat = 64 + k from by omega, Int.pow_add] at hR
      rw [← Int.ediv_ediv_of_nonneg (by decide)] at hR
      have e : M / 2 ^ 64 = x := by have : (2 : Int) ^ 64 = 18446744073709551616 := rfl
                                    rw [this]; omega
      rw [e] at hR
      have hd := div_pow_bd x k x0 x1
      rw [hR] at hd ⊢
      unfold hi64 lo64
      omega
    obtain ⟨hr1, hr2⟩ := hr
    have H1 := Lib.hid hr1
    have H2 := Lib.hid hr2
    clear hr1 hr2
    go_enter Try.func79, Try.ntmps79
    go_wp2
    simp [bodyPost, results, Try.results79, go_sem]
    refine ⟨⟨H1.out.symm, H2.out⟩, ?_⟩
    (repeat (first | with_reducible exact Below.refl _ _ | with_reducible apply Below.drew | (with_reducible refine below_drewN ?_ _) | (with_reducible refine Below.alloc ?_ (by (try simp) <;> omega) _) | (with_reducible refine Below.setCell ?_ (by (try simp) <;> omega) _)))
  · have hr : x / 2 ^ s.toNat = hi64 R ∧ bits .or .u64 (y / 2 ^ s.toNat) (IntKind.u64.wrap (x * 2 ^ (64 - s).toNat)) = lo64 R := by
      have hM := HM.out
      have hR := HR.out
      obtain ⟨k, rfl⟩ := Int.eq_ofNat_of_zero_le s0
      obtain ⟨y, rfl⟩ := Int.eq_ofNat_of_zero_le y0
      obtain ⟨x, rfl⟩ := Int.eq_ofNat_of_zero_le x0
      have hd := div_pow_bd y k y0 y1
      rw [show (64 - (k : Int)).toNat = 64 - k from by omega, IntKind.wrap_u64]
      rw [Int.toNat_natCast] at *
      have e1 := shr_hi_eq x y k (by omega) (by omega)
      have e2 := shr_lo_eq x y k (by omega) (by omega)
      have hR' : R = (((x * 18446744073709551616 + y) / 2 ^ k : Nat) : Int) := by rw [← hR, ← hM]; simp
      have hm : ((x : Int) * 2 ^ (64 - k)) % 18446744073709551616 = ((x * 2 ^ (64 - k) % 18446744073709551616 : Nat) : Int) := by simp
      rw [hm, bits_or_u64 _ _ hd.1 hd.2 (by omega) (by have := Nat.mod_lt (x * 2 ^ (64 - k)) (show 18446744073709551616 > 0 by decide); omega), toNat_div_pow _ _ (by omega), hR']
      refine ⟨?_, ?_⟩
      · unfold hi64
        rw [show ((x : Int) / 2 ^ k) = ((x / 2 ^ k : Nat) : Int) from by simp]
        omega
      · unfold lo64
        rw [Int.toNat_natCast, Int.toNat_natCast, Nat.or_comm]
        omega
    obtain ⟨hr1, hr2⟩ := hr
    have H1 := Lib.hid hr1
    have H2 := Lib.hid hr2
    clear hr1 hr2
    have h3 : ¬ 64 - s < 0 := by omega
    go_enter Try.func79, Try.ntmps79
    go_wp2
    go_region
    go_wp2
    simp [bodyPost, results, Try.results79, go_sem]
    refine ⟨⟨H1.out, H2.out⟩, ?_⟩
    (repeat (first | with_reducible exact Below.refl _ _ | with_reducible apply Below.drew | (with_reducible refine below_drewN ?_ _) | (with_reducible refine Below.alloc ?_ (by (try simp) <;> omega) _) | (with_reducible refine Below.setCell ?_ (by (try simp) <;> omega) _)))

theorem plus_any (x y u v S : Int) (w : World) (x0 : 0 ≤ x) (y0 : 0 ≤ y) (y1 : y < 18446744073709551616) (u0 : 0 ≤ u) (v0 : 0 ≤ v) (v1 : v < 18446744073709551616)
    (hS : (x + u) * 18446744073709551616 + y + v = S) (hlt : S < 340282366920938463463374607431768211456) :
    Calls Try.prog 76 #[.agg #[.int .u64 x, .int .u64 y], .agg #[.int .u64 u, .int .u64 v]] w fun e w' =>
      e = .returned (.agg #[.int .u64 (hi64 S), .int .u64 (lo64 S)]) ∧ Below w.heap.size w w' := by
  have a1 := fun w => add64_0 y v y0 v0 w
  have c1 : 0 ≤ hi64 (y + v) ∧ hi64 (y + v) ≤ 1 := by unfold hi64; omega
  have a2 := fun w => add64 x u (hi64 (y + v)) x0 u0 c1.1 c1.2 w
  have hr : lo64 (x + u + hi64 (y + v)) = hi64 S ∧ lo64 (y + v) = lo64 S := by unfold hi64 lo64; omega
  obtain ⟨hr1, hr2⟩ := hr
  have H1 := Lib.hid hr1
  have H2 := Lib.hid hr2
  clear hr1 hr2 hS c1 hlt
  go_enter Try.func76, Try.ntmps76
  go_wp2_with fail
  simp [bodyPost, results, Try.results76, go_sem]
  refine ⟨⟨H1.out, H2.out⟩, ?_⟩
  (repeat (first | with_reducible exact Below.refl _ _ | with_reducible apply Below.drew | (with_reducible refine below_drewN ?_ _) | (with_reducible refine Below.alloc ?_ (by (try simp) <;> omega) _) | (with_reducible refine Below.setCell ?_ (by (try simp) <;> omega) _)))
end Go.Proofs.Ytgpnopiinogkmaa
/- Contracts of math/bits out of the guide's shelf, laid at this program (by the shelf's own tool). -/
namespace Go.Proofs.Ytgpnopiinogkmaa
open Go.Shelf
def lays134_ren : Go.Shelf.Ren := ⟨fun | 134 => 89 | 129 => 91 | n => n, fun | 53 => 70 | 3 => 3 | 4 => 4 | 46 => 112 | 5 => 5 | 9 => 9 | n => n, fun | n => n⟩
theorem lays134 : Go.Proofs.Lays.n134 Try.prog lays134_ren := {
  mixed := by kernel_rfl
  f129 := Try.func91.trans (congrArg some (by kernel_rfl))
  f134 := Try.func89.trans (congrArg some (by kernel_rfl))
  t3 := Try.underlying3
  a3 := Try.isAgg3
  z3 := Try.sizeOf3
  v3 := Try.zeroValue3
  t4 := Try.underlying4
  a4 := Try.isAgg4
  z4 := Try.sizeOf4
  v4 := Try.zeroValue4
  t5 := Try.underlying5
  a5 := Try.isAgg5
  z5 := Try.sizeOf5
  v5 := Try.zeroValue5
  t9 := Try.underlying9
  a9 := Try.isAgg9
  z9 := Try.sizeOf9
  v9 := Try.zeroValue9
  t46 := Try.underlying112
  a46 := Try.isAgg112
  z46 := Try.sizeOf112
  v46 := Try.zeroValue112
  t53 := Try.underlying70
  a53 := Try.isAgg70
  z53 := Try.sizeOf70
  v53 := Try.zeroValue70 }
theorem bits_LeadingZeros64 (x : Int) (w : World) (h0 : 0 ≤ x) (h1 : x ≤ 18446744073709551615) :
    Calls Try.prog 89 #[.int .u64 x] w fun e w' => e = .returned (.int .i64 (64 - (Lib.bitLen x.toNat : Int))) ∧ w' = w := Any.bits_LeadingZeros64 lays134 x w h0 h1
def lays264_ren : Go.Shelf.Ren := ⟨fun | 264 => 56 | n => n, fun | 53 => 70 | 46 => 112 | n => n, fun | n => n⟩
theorem lays264 : Go.Proofs.Lays.n264 Try.prog lays264_ren := {
  mixed := by kernel_rfl
  f264 := Try.func56.trans (congrArg some (by kernel_rfl))
  t46 := Try.underlying112
  a46 := Try.isAgg112
  z46 := Try.sizeOf112
  v46 := Try.zeroValue112
  t53 := Try.underlying70
  a53 := Try.isAgg70
  z53 := Try.sizeOf70
  v53 := Try.zeroValue70 }
open Go.RowKit Go.Lib in
theorem bits_Mul64 (x y : Nat) (hx : x < 18446744073709551616) (hy : y < 18446744073709551616) (w : World) :
    Calls Try.prog 56 #[.int .u64 x, .int .u64 y] w fun e w' => e = .returned (.tuple #[.int .u64 ((x * y / 18446744073709551616 : Nat) : Int), .int .u64 ((x * y % 18446744073709551616 : Nat) : Int)]) ∧ w' = w := Any.bits_Mul64 lays264 x y hx hy w
end Go.Proofs.Ytgpnopiinogkmaa
