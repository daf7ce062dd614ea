/- Contracts of the program's functions and plain laws, part 1: they hold for all arguments. -/
import Derived.WalkKit
import Derived.WalkSpells
import Derived.WalkLawsBesides
import Derived.Below
import Derived.Lib.Hide
/- Plain numbers: what the scalars of package fx come to. No program here. -/
namespace Go.Proofs.Ytipkdkeacdmnaaa
theorem nA {α : Type _} (l : List α) (i : Nat) (a : α) : l.toArray.setIfInBounds i a = (l.set i a).toArray := List.setIfInBounds_toArray l i a
theorem nB {α : Type _} {x a : α} {l : List α} : (x :: l).set 0 a = a :: l := List.set_cons_zero
theorem nC {α : Type _} {x a : α} {l : List α} {n : Nat} : (x :: l).set (n + 1) a = x :: l.set n a := List.set_cons_succ

def B64 : Int := 18446744073709551616
/-- The upper and the lower half of a number of 128 bits. -/
def hi64 (x : Int) : Int := x / 18446744073709551616
def lo64 (x : Int) : Int := x % 18446744073709551616
theorem hilo (x : Int) : hi64 x * 18446744073709551616 + lo64 x = x := by unfold hi64 lo64; omega
theorem lo64_bd (x : Int) : 0 ≤ lo64 x ∧ lo64 x < 18446744073709551616 := by unfold lo64; omega
def nt (x : Int) : Int := 18446744073709551615 - x
theorem nt_bd {x : Int} (h0 : 0 ≤ x) (h1 : x < 18446744073709551616) : 0 ≤ nt x ∧ nt x < 18446744073709551616 := by unfold nt; omega
def clampV (a lo hi : Int) : Int := if hi < lo then lo else if a < lo then lo else if hi < a then hi else a
def clampH (a lo hi : Int) : Bool := decide (hi < lo) || (decide (a < lo) || decide (hi < a))
def satV (a : Int) : Int := clampV a (-1152921504606846976) 1152921504606846976
def satH (a : Int) : Bool := clampH a (-1152921504606846976) 1152921504606846976
/-- Divided, rounded: of two the one farther from nought. -/
def rdiv (a d : Int) : Int :=
  if (0 ≤ a) = (0 < d) then (((2 * a.natAbs + d.natAbs) / (2 * d.natAbs) : Nat) : Int) else -(((2 * a.natAbs + d.natAbs) / (2 * d.natAbs) : Nat) : Int)
/-- Divided by 2^s, rounded. -/
def rsh (a : Int) (s : Nat) : Int := rdiv a (2 ^ s)

theorem satV_bd (a : Int) : -1152921504606846976 ≤ satV a ∧ satV a ≤ 1152921504606846976 := by
  unfold satV clampV; repeat' split
  all_goals omega
theorem satV_id {a : Int} (h1 : -1152921504606846976 ≤ a) (h2 : a ≤ 1152921504606846976) : satV a = a := by
  unfold satV clampV; repeat' split
  all_goals omega
theorem satH_no {a : Int} (h1 : -1152921504606846976 ≤ a) (h2 : a ≤ 1152921504606846976) : satH a = false := by
  unfold satH clampH; simp; omega
end Go.Proofs.Ytipkdkeacdmnaaa
/- Plain numbers (2): Mul, Div, MulDiv as numbers. -/
namespace Go.Proofs.Ytipkdkeacdmnaaa
def mulV (a b s : Int) : Int := if s < 0 ∨ 120 < s then 0 else satV (rsh (satV a * satV b) s.toNat)
def mulH (a b s : Int) : Bool := satH a || satH b || (decide (s < 0 ∨ 120 < s) || satH (rsh (satV a * satV b) s.toNat))
/-- Divided; by nought: the bound on the number's side. -/
def byV (x d : Int) : Int := if d = 0 then (if x = 0 then 0 else if x < 0 then -1152921504606846976 else 1152921504606846976) else satV (rdiv x d)
def byH (x d : Int) : Bool := decide (d = 0) || satH (rdiv x d)
def divV (a b s : Int) : Int := if s < 0 ∨ 66 < s then 0 else byV (satV a * 2 ^ s.toNat) (satV b)
def divH (a b s : Int) : Bool := satH a || satH b || (decide (s < 0 ∨ 66 < s) || byH (satV a * 2 ^ s.toNat) (satV b))
/-- The sum of the products, and whether a number was clamped. -/
def dotS (A B : Nat → Int) : Nat → Int | 0 => 0 | n + 1 => dotS A B n + satV (A n) * satV (B n)
def dotB (A B : Nat → Int) : Nat → Bool | 0 => false | n + 1 => dotB A B n || satH (A n) || satH (B n)
def dotV (s : Int) (A B : Nat → Int) (n : Nat) : Int := if s < 0 ∨ 120 < s then 0 else satV (rsh (dotS A B n) s.toNat)
def dotH (s : Int) (A B : Nat → Int) (n : Nat) : Bool := if s < 0 ∨ 120 < s then true else dotB A B n || satH (rsh (dotS A B n) s.toNat)
theorem prod_bd (a b : Int) : -1329227995784915872903807060280344576 ≤ satV a * satV b ∧ satV a * satV b ≤ 1329227995784915872903807060280344576 := by
  have ha := satV_bd a
  have hb := satV_bd b
  generalize satV a = x at *
  generalize satV b = y at *
  have e : ((x * y).natAbs : Int) ≤ 1152921504606846976 * 1152921504606846976 := by
    rw [Int.natAbs_mul, Int.natCast_mul]
    exact Int.mul_le_mul (by omega) (by omega) (by omega) (by decide)
  omega
theorem dotS_bd (A B : Nat → Int) (n : Nat) : -(n * 1329227995784915872903807060280344576 : Int) ≤ dotS A B n ∧ dotS A B n ≤ (n * 1329227995784915872903807060280344576 : Int) := by
  induction n with
  | zero => simp [dotS]
  | succ n ih =>
    have := prod_bd (A n) (B n)
    simp only [dotS]
    omega
theorem shift_bd (a s : Int) (_s0 : 0 ≤ s) (s1 : s ≤ 66) : -85070591730234615865843651857942052864 ≤ satV a * 2 ^ s.toNat ∧ satV a * 2 ^ s.toNat ≤ 85070591730234615865843651857942052864 := by
  have ha := satV_bd a
  generalize satV a = x at *
  have h : (2 : Nat) ^ s.toNat ≤ 2 ^ 66 := Nat.pow_le_pow_right (by decide) (by omega)
  have h3 : (2 : Nat) ^ 66 = 73786976294838206464 := by decide
  have h2 : ((2 ^ s.toNat : Nat) : Int) = 2 ^ s.toNat := by simp
  have e : ((x * 2 ^ s.toNat).natAbs : Int) ≤ 1152921504606846976 * 73786976294838206464 := by
    rw [Int.natAbs_mul, Int.natCast_mul, ← h2, Int.natAbs_natCast]
    exact Int.mul_le_mul (by omega) (by omega) (Int.natCast_nonneg _) (by decide)
  omega
theorem rdiv_sign (x d : Int) (h : rdiv x d ≠ 0) : rdiv x d < 0 ↔ ¬ ((0 ≤ x) = (0 < d)) := by
  unfold rdiv at *
  have h1 : (0 : Int) ≤ (((2 * x.natAbs + d.natAbs) / (2 * d.natAbs) : Nat) : Int) := Int.natCast_nonneg _
  generalize (((2 * x.natAbs + d.natAbs) / (2 * d.natAbs) : Nat) : Int) = q at *
  by_cases hc : (0 ≤ x) = (0 < d)
  · rw [if_pos hc] at *; simp [hc]; omega
  · rw [if_neg hc] at *; simp [hc]; omega
end Go.Proofs.Ytipkdkeacdmnaaa
/- thornton.Step's numbers: one elimination, and all of them. No program. -/
namespace Go.Proofs.Ytipkdkeacdmnaaa
def upd (f : Nat → Int) (j : Nat) (v : Int) : Nat → Int := fun i => if i = j then v else f i
/-- Is one of the first n so? -/
def orB (p : Nat → Bool) : Nat → Bool | 0 => false | n + 1 => orB p n || p n
def varV (a : Int) : Int := clampV a 1 72057594037927936
def varH (a : Int) : Bool := clampH a 1 72057594037927936
def subV (a b : Int) : Int := satV (satV a - satV b)
def subH (a b : Int) : Bool := satH a || satH b || satH (satV a - satV b)
/-- Row i of a matrix of n columns. -/
def rowF (n : Nat) (F : Nat → Int) (i : Nat) : Nat → Int := fun m => F (i * n + m)
/-- Where U's number of row i and column j stands. -/
def pl (i j : Nat) : Nat := j * (j - 1) / 2 + i
/-- One elimination, row j. -/
def stY (W e : Nat → Int) (j : Nat) : Nat → Int := fun k => mulV (W (j * 48 + k)) (e k) 30
def stD (W e : Nat → Int) (j : Nat) : Int := varV (dotV 30 (rowF 48 W j) (stY W e j) 48)
def stU (W e : Nat → Int) (j i : Nat) : Int := divV (dotV 30 (rowF 48 W i) (stY W e j) 48) (stD W e j) 30
def elV (W : Nat → Int) (u : Int) (j i k : Nat) : Int := subV (W (i * 48 + k)) (mulV u (W (j * 48 + k)) 30)
def elB (W : Nat → Int) (u : Int) (j i k : Nat) : Bool := mulH u (W (j * 48 + k)) 30 || subH (W (i * 48 + k)) (mulV u (W (j * 48 + k)) 30)
/-- m rows are done, and of row m the first kk numbers. -/
def elW (W e : Nat → Int) (j m kk : Nat) : Nat → Int := fun x => if x / 48 < m ∨ (x / 48 = m ∧ x % 48 < kk) then elV W (stU W e j (x / 48)) j (x / 48) (x % 48) else W x
def outI (O W e : Nat → Int) (j : Nat) : Nat → Nat → Int | 0 => upd O (276 + j) (stD W e j) | m + 1 => upd (outI O W e j m) (pl m j) (stU W e j m)
def yB (W e : Nat → Int) (j k : Nat) : Bool := mulH (W (j * 48 + k)) (e k) 30
def dB (W e : Nat → Int) (j : Nat) : Bool := dotH 30 (rowF 48 W j) (stY W e j) 48 || varH (dotV 30 (rowF 48 W j) (stY W e j) 48)
def uB (W e : Nat → Int) (j i : Nat) : Bool := dotH 30 (rowF 48 W i) (stY W e j) 48 || divH (dotV 30 (rowF 48 W i) (stY W e j) 48) (stD W e j) 30
def rowB (W e : Nat → Int) (j i : Nat) : Bool := uB W e j i || orB (elB W (stU W e j i) j i) 48
def stageH (W e : Nat → Int) (j : Nat) : Bool := orB (yB W e j) 48 || dB W e j || orB (rowB W e j) j
/-- n eliminations are done: of rows 23, 22, .. -/
def WN (W e : Nat → Int) : Nat → Nat → Int | 0 => W | n + 1 => elW (WN W e n) e (23 - n) (23 - n) 0
def ON (W e : Nat → Int) : Nat → Nat → Int | 0 => fun _ => 0 | n + 1 => outI (ON W e n) (WN W e n) e (23 - n) (23 - n)
def HN (W e : Nat → Int) : Nat → Bool | 0 => false | n + 1 => HN W e n || stageH (WN W e n) e (23 - n)
def two (x y : Int) : Nat → Int := fun i => if i = 0 then x else y
end Go.Proofs.Ytipkdkeacdmnaaa
/- Roundings: how far from the quotient. No program. -/
namespace Go.Proofs.Ytipkdkeacdmnaaa
def SB (x : Int) : Prop := -1152921504606846976 ≤ x ∧ x ≤ 1152921504606846976
theorem satV_sb {x : Int} (h : SB x) : satV x = x := satV_id h.1 h.2
theorem satH_sb {x : Int} (h : SB x) : satH x = false := satH_no h.1 h.2
theorem rdiv_err {x d : Int} (hd : 0 < d) : -d ≤ 2 * (d * rdiv x d - x) ∧ 2 * (d * rdiv x d - x) ≤ d := by
  have key : ∀ n k : Nat, 0 < k → -(k : Int) ≤ 2 * ((k : Int) * (((2 * n + k) / (2 * k) : Nat) : Int) - n) ∧ 2 * ((k : Int) * (((2 * n + k) / (2 * k) : Nat) : Int) - n) ≤ k := by
    intro n k hk
    have h1 := Nat.div_add_mod (2 * n + k) (2 * k)
    have h2 := Nat.mod_lt (2 * n + k) (show 0 < 2 * k by omega)
    generalize (2 * n + k) / (2 * k) = q at *
    generalize (2 * n + k) % (2 * k) = r at *
    have h3 : ((2 * k * q + r : Nat) : Int) = ((2 * n + k : Nat) : Int) := by rw [h1]
    rw [Int.natCast_add, Int.natCast_mul, Int.natCast_mul, Int.natCast_add, Int.natCast_mul, Int.mul_assoc] at h3
    generalize (k : Int) * (q : Int) = z at *
    omega
  have hk : (d.natAbs : Int) = d := by omega
  have h := key x.natAbs d.natAbs (by omega)
  rw [hk] at h
  unfold rdiv
  by_cases hx : 0 ≤ x
  · rw [if_pos (by simp [hx, hd])]
    rw [show (x.natAbs : Int) = x by omega] at h
    exact h
  · rw [if_neg (by simp [hx, hd])]
    rw [show (x.natAbs : Int) = -x by omega] at h
    rw [Int.mul_neg]
    generalize d * (((2 * x.natAbs + d.natAbs) / (2 * d.natAbs) : Nat) : Int) = z at *
    omega
theorem rsh_err (x : Int) : -1073741824 ≤ 2 * (1073741824 * rsh x 30 - x) ∧ 2 * (1073741824 * rsh x 30 - x) ≤ 1073741824 := by
  have h2 : ((2 : Int) ^ 30) = 1073741824 := by decide
  unfold rsh; rw [h2]
  exact rdiv_err (by decide)
theorem mulV_of {a b : Int} (ha : SB a) (hb : SB b) (h : SB (rsh (a * b) 30)) : mulV a b 30 = rsh (a * b) 30 ∧ mulH a b 30 = false := by
  unfold mulV mulH
  rw [if_neg (by decide), satV_sb ha, satV_sb hb, show (30 : Int).toNat = 30 from rfl, satV_sb h, satH_sb ha, satH_sb hb, satH_sb h]
  exact ⟨rfl, by decide⟩
end Go.Proofs.Ytipkdkeacdmnaaa
/- Sums; one elimination of two rows by a third, with its roundings. No program. -/
namespace Go.Proofs.Ytipkdkeacdmnaaa
def sg (f : Nat → Int) : Nat → Int | 0 => 0 | n + 1 => sg f n + f n
theorem sg_congr {f g : Nat → Int} : ∀ {n : Nat}, (∀ k, k < n → f k = g k) → sg f n = sg g n
  | 0, _ => rfl
  | n + 1, h => by unfold sg; rw [sg_congr (n := n) fun k hk => h k (by omega), h n (by omega)]
theorem sg_le {f g : Nat → Int} : ∀ {n : Nat}, (∀ k, k < n → f k ≤ g k) → sg f n ≤ sg g n
  | 0, _ => Int.le_refl _
  | n + 1, h => by
    have h1 := sg_le (n := n) fun k hk => h k (by omega)
    have h2 := h n (by omega)
    unfold sg; omega
theorem sg_abs {f g : Nat → Int} : ∀ {n : Nat}, (∀ k, k < n → -(g k) ≤ f k ∧ f k ≤ g k) → -(sg g n) ≤ sg f n ∧ sg f n ≤ sg g n
  | 0, _ => by unfold sg; omega
  | n + 1, h => by
    have h1 := sg_abs (n := n) fun k hk => h k (by omega)
    have h2 := h n (by omega)
    unfold sg; omega
theorem sg_nonneg {f : Nat → Int} : ∀ {n : Nat}, (∀ k, k < n → 0 ≤ f k) → 0 ≤ sg f n
  | 0, _ => Int.le_refl _
  | n + 1, h => by
    have h1 := sg_nonneg (n := n) fun k hk => h k (by omega)
    have h2 := h n (by omega)
    unfold sg; omega
theorem sg_const (c : Int) : ∀ n : Nat, sg (fun _ => c) n = n * c
  | 0 => by simp [sg]
  | n + 1 => by unfold sg; rw [sg_const c n, Int.natCast_add, Int.add_mul]; simp
theorem sg_mul (c : Int) (f : Nat → Int) : ∀ n : Nat, sg (fun k => c * f k) n = c * sg f n
  | 0 => by simp [sg]
  | n + 1 => by unfold sg; rw [sg_mul c f n, Int.mul_add]
theorem sg_add (f g : Nat → Int) : ∀ n : Nat, sg (fun k => f k + g k) n = sg f n + sg g n
  | 0 => rfl
  | n + 1 => by unfold sg; rw [sg_add f g n]; omega
/-- One number among nonnegative ones. -/
theorem sg_one {f : Nat → Int} {a : Nat} : ∀ {n : Nat}, a < n → (∀ k, k < n → 0 ≤ f k) → f a ≤ sg f n
  | 0, h, _ => absurd h (Nat.not_lt_zero _)
  | n + 1, h, h0 => by
    unfold sg
    have h2 := h0 n (by omega)
    by_cases e : a = n
    · subst e
      have := sg_nonneg (n := a) fun k hk => h0 k (by omega)
      omega
    · have := sg_one (a := a) (n := n) (by omega) fun k hk => h0 k (by omega)
      omega
def ab (x : Int) : Int := (x.natAbs : Int)
theorem ab_bd (x : Int) : 0 ≤ ab x ∧ -(ab x) ≤ x ∧ x ≤ ab x := by unfold ab; omega
theorem ab_mul (x y : Int) : ab (x * y) = ab x * ab y := by unfold ab; rw [Int.natAbs_mul, Int.natCast_mul]
theorem ab_le {x k : Int} (h : ab x ≤ k) : -k ≤ x ∧ x ≤ k := by unfold ab at h; omega
theorem le_ab {x k : Int} (h : -k ≤ x ∧ x ≤ k) : ab x ≤ k := by unfold ab; omega
theorem ab_add (x y : Int) : ab (x + y) ≤ ab x + ab y := by unfold ab; omega
theorem ab_neg (x : Int) : ab (-x) = ab x := by unfold ab; omega
theorem sg_ab (f : Nat → Int) : ∀ n : Nat, ab (sg f n) ≤ sg (fun k => ab (f k)) n
  | 0 => by simp [sg, ab]
  | n + 1 => by
    have h := sg_ab f n
    have := ab_add (sg f n) (f n)
    unfold sg; omega
/-- The sum of products of two rows, weighted. -/
def gr (a b e : Nat → Int) : Int := sg (fun k => a k * b k * e k) 48
theorem gr_comm (a b e : Nat → Int) : gr a b e = gr b a e := sg_congr fun k _ => by rw [Int.mul_comm (a k)]
theorem el_id (a b v e r s ρ σ O u t : Int) (h1 : O * r = u * v + ρ) (h2 : O * s = t * v + σ) :
    O * O * ((a - r) * (b - s) * e) = O * O * (a * b * e) - O * u * (b * v * e) - O * t * (a * v * e) + u * t * (v * v * e) - O * (ρ * (b - s) * e) - O * (σ * (a - r) * e) - ρ * σ * e := by
  obtain rfl : ρ = O * r - u * v := by omega
  obtain rfl : σ = O * s - t * v := by omega
  grind
theorem el_sum (a b v e r s ρ σ : Nat → Int) (O u t : Int) : ∀ n : Nat, (∀ k, k < n → O * r k = u * v k + ρ k) → (∀ k, k < n → O * s k = t * v k + σ k) →
    O * O * sg (fun k => (a k - r k) * (b k - s k) * e k) n = O * O * sg (fun k => a k * b k * e k) n - O * u * sg (fun k => b k * v k * e k) n - O * t * sg (fun k => a k * v k * e k) n + u * t * sg (fun k => v k * v k * e k) n
      - O * sg (fun k => ρ k * (b k - s k) * e k) n - O * sg (fun k => σ k * (a k - r k) * e k) n - sg (fun k => ρ k * σ k * e k) n
  | 0, _, _ => by simp [sg]
  | n + 1, h1, h2 => by
    have ih := el_sum a b v e r s ρ σ O u t n (fun k hk => h1 k (by omega)) (fun k hk => h2 k (by omega))
    have hn := el_id (a n) (b n) (v n) (e n) (r n) (s n) (ρ n) (σ n) O u t (h1 n (by omega)) (h2 n (by omega))
    simp only [sg, Int.mul_add]
    omega
/-- What is left of two rows, told by what they were and the multiples that were taken away. -/
theorem el_core {a b v e r s ρ σ : Nat → Int} {O u t d εa εb εv : Int} (hr : ∀ k, k < 48 → O * r k = u * v k + ρ k) (hs : ∀ k, k < 48 → O * s k = t * v k + σ k)
    (hA : gr a v e = O * d * u - εa) (hB : gr b v e = O * d * t - εb) (hV : gr v v e = O * O * d - εv) :
    O * O * gr (fun k => a k - r k) (fun k => b k - s k) e = O * O * gr a b e - O * O * (u * t * d) + O * (u * εb) + O * (t * εa) - u * t * εv
      - O * sg (fun k => ρ k * (b k - s k) * e k) 48 - O * sg (fun k => σ k * (a k - r k) * e k) 48 - sg (fun k => ρ k * σ k * e k) 48 := by
  have h := el_sum a b v e r s ρ σ O u t 48 hr hs
  unfold gr at *
  rw [hA, hB, hV] at h
  generalize sg (fun k => (a k - r k) * (b k - s k) * e k) 48 = X at *
  generalize sg (fun k => a k * b k * e k) 48 = Y at *
  generalize sg (fun k => ρ k * (b k - s k) * e k) 48 = Z1 at *
  generalize sg (fun k => σ k * (a k - r k) * e k) 48 = Z2 at *
  generalize sg (fun k => ρ k * σ k * e k) 48 = Z3 at *
  grind
/-- A sum of products with numbers up to m. -/
theorem sg_bd {x y : Nat → Int} {m : Int} {n : Nat} (h : ∀ k, k < n → ab (x k) ≤ m) : ab (sg (fun k => x k * y k) n) ≤ m * sg (fun k => ab (y k)) n := by
  rw [← sg_mul]
  refine Int.le_trans (sg_ab _ _) (sg_le fun k hk => ?_)
  rw [ab_mul]
  exact Int.mul_le_mul_of_nonneg_right (h k hk) (ab_bd _).1
theorem sq_nn (x : Int) : 0 ≤ x * x := by
  by_cases h : 0 ≤ x
  · exact Int.mul_nonneg h h
  · have := Int.mul_nonneg (a := -x) (b := -x) (by omega) (by omega)
    rwa [Int.neg_mul_neg] at this
/-- Products of two rows, by their squares: 2 t x y is at most x x + t t y y. -/
theorem gr_two (a b e : Nat → Int) (he : ∀ k, k < 48 → 0 ≤ e k) (t : Int) : ab (2 * t * gr a b e) ≤ gr a a e + t * t * gr b b e := by
  have h1 : ∀ k, k < 48 → -(a k * a k * e k + t * t * (b k * b k * e k)) ≤ 2 * t * (a k * b k * e k) ∧ 2 * t * (a k * b k * e k) ≤ a k * a k * e k + t * t * (b k * b k * e k) := by
    intro k hk
    have p := Int.mul_nonneg (sq_nn (a k - t * b k)) (he k hk)
    have q := Int.mul_nonneg (sq_nn (a k + t * b k)) (he k hk)
    grind
  have h2 := sg_abs h1
  rw [sg_mul, sg_add, sg_mul] at h2
  exact le_ab h2
theorem cl_rshmul (e : Int) : rsh (1073741824 * e) 30 = e := by
  have h2 : ((2 : Int) ^ 30) = 1073741824 := by decide
  unfold rsh rdiv
  rw [h2]
  have : (1073741824 * e).natAbs = 1073741824 * e.natAbs := by rw [Int.natAbs_mul]; rfl
  rw [this, show (1073741824 : Int).natAbs = 1073741824 from rfl]
  have e1 : (2 * (1073741824 * e.natAbs) + 1073741824) / (2 * 1073741824) = e.natAbs := by omega
  rw [e1]
  by_cases he : 0 ≤ e
  · rw [if_pos (by simp; omega)]; omega
  · rw [if_neg (by simp; omega)]; omega
theorem cl_varV {a : Int} (h : 1 ≤ a) (h' : a ≤ 72057594037927936) : varV a = a ∧ varH a = false := by
  constructor
  · unfold varV clampV; rw [if_neg (by omega), if_neg (by omega), if_neg (by omega)]
  · unfold varH clampH; simp; omega
theorem cl_subV {a b : Int} (ha : SB a) (hb : SB b) (h : SB (a - b)) : subV a b = a - b ∧ subH a b = false := by
  unfold subV subH
  rw [satV_sb ha, satV_sb hb, satV_sb h, satH_sb ha, satH_sb hb, satH_sb h]; exact ⟨rfl, rfl⟩
theorem cl_rdivnn {x d : Int} (hx : 0 ≤ x) (hd : 0 < d) : 0 ≤ rdiv x d := by
  unfold rdiv
  rw [if_pos (by simp [hx, hd])]; exact Int.natCast_nonneg _
theorem cl_divV {a b : Int} (ha : SB a) (hb : SB b) (h0 : b ≠ 0) (h : SB (rdiv (a * 1073741824) b)) : divV a b 30 = rdiv (a * 1073741824) b ∧ divH a b 30 = false := by
  have e : (2 : Int) ^ (30 : Int).toNat = 1073741824 := by decide
  unfold divV divH byV byH
  rw [if_neg (by decide), satV_sb ha, satV_sb hb, e, satV_sb h, satH_sb ha, satH_sb hb, satH_sb h, if_neg h0]
  refine ⟨rfl, ?_⟩
  simp; exact h0
theorem cl_rshnp {x : Int} (h : x ≤ 0) : rsh x 30 ≤ 0 := by
  have := rsh_err x
  omega
theorem cl_rshnn {x : Int} (h : 0 ≤ x) : 0 ≤ rsh x 30 := cl_rdivnn h (by decide)
theorem cl_rdiv0 {d : Int} (h : d ≠ 0) : rdiv 0 d = 0 := by
  unfold rdiv
  have : (2 * (0 : Int).natAbs + d.natAbs) / (2 * d.natAbs) = 0 := Nat.div_eq_of_lt (by have := Int.natAbs_pos.2 h; simp; omega)
  rw [this]
  split <;> rfl
end Go.Proofs.Ytipkdkeacdmnaaa
/- One elimination of a run: its numbers without clamps, and what its roundings come to. No program. -/
namespace Go.Proofs.Ytipkdkeacdmnaaa
theorem rsh_ab {x m : Int} (h : ab x ≤ 1073741824 * m) : ab (rsh x 30) ≤ m := by
  have e := rsh_err x
  have := ab_le h
  exact le_ab (by omega)
theorem rsh_two (x : Int) : 2 * ab (1073741824 * rsh x 30 - x) ≤ 1073741824 := by
  have e := rsh_err x
  unfold ab; omega
theorem sb_ab {x m : Int} (h : ab x ≤ m) (hm : m ≤ 1152921504606846976) : SB x := by
  have := ab_le h
  unfold SB; omega
theorem dotS_sg {A B : Nat → Int} : ∀ {n : Nat}, (∀ k, k < n → SB (A k) ∧ SB (B k)) → dotS A B n = sg (fun k => A k * B k) n ∧ dotB A B n = false
  | 0, _ => ⟨rfl, rfl⟩
  | n + 1, h => by
    have ih := dotS_sg (n := n) fun k hk => h k (by omega)
    have hn := h n (by omega)
    unfold dotS dotB sg
    rw [ih.1, ih.2, satV_sb hn.1, satV_sb hn.2, satH_sb hn.1, satH_sb hn.2]
    exact ⟨rfl, rfl⟩
theorem dotV_sg {A B : Nat → Int} {n : Nat} (h : ∀ k, k < n → SB (A k) ∧ SB (B k)) (hs : SB (rsh (sg (fun k => A k * B k) n) 30)) : dotV 30 A B n = rsh (sg (fun k => A k * B k) n) 30 ∧ dotH 30 A B n = false := by
  have d := dotS_sg h
  unfold dotV dotH
  rw [if_neg (by decide), if_neg (by decide), d.1, d.2, show (30 : Int).toNat = 30 from rfl, satV_sb hs, satH_sb hs]
  exact ⟨rfl, rfl⟩
/-- The weights. -/
def WtB (e : Nat → Int) : Prop := ∀ k, k < 48 → 0 ≤ e k ∧ e k ≤ 22000000000000
/-- The rows up to j: the sum of their numbers' sizes, and their squares' sums. -/
def RwB (W e : Nat → Int) (j : Nat) : Prop := ∀ i, i ≤ j → sg (fun k => ab (W (i * 48 + k))) 48 ≤ 50000000000000 ∧ gr (rowF 48 W i) (rowF 48 W i) e ≤ 50706024009129176059868128215040
section
variable {W e : Nat → Int} {j : Nat} (he : WtB e) (hW : RwB W e j)
include hW in
theorem rw_ent {i k : Nat} (hi : i ≤ j) (hk : k < 48) : ab (W (i * 48 + k)) ≤ 50000000000000 := by
  have := sg_one (f := fun k => ab (W (i * 48 + k))) hk fun k _ => (ab_bd _).1
  have := (hW i hi).1
  omega
include he hW in
theorem st_y {k : Nat} (hk : k < 48) : stY W e j k = rsh (W (j * 48 + k) * e k) 30 ∧ yB W e j k = false ∧ SB (stY W e j k) := by
  have h1 := rw_ent hW (Nat.le_refl j) hk
  have h2 := he k hk
  have h3 : ab (W (j * 48 + k) * e k) ≤ 1073741824 * 1152921504606846976 := by
    rw [ab_mul]
    have : ab (e k) ≤ 22000000000000 := le_ab (by omega)
    exact Int.le_trans (Int.mul_le_mul h1 this (ab_bd _).1 (by decide)) (by decide)
  have h4 := sb_ab (rsh_ab h3) (Int.le_refl _)
  have m := mulV_of (sb_ab h1 (by decide)) (show SB (e k) by unfold SB; omega) h4
  unfold stY yB
  exact ⟨m.1, m.2, by rw [m.1]; exact h4⟩
/-- The products of a row with y: told by the weighted sum of products, within the roundings. -/
theorem y_err (he : WtB e) (hW : RwB W e j) {i : Nat} (hi : i ≤ j) :
    2 * ab (1073741824 * sg (fun k => W (i * 48 + k) * stY W e j k) 48 - gr (rowF 48 W i) (rowF 48 W j) e) ≤ 1073741824 * 70368744177664 := by
  have h1 : 1073741824 * sg (fun k => W (i * 48 + k) * stY W e j k) 48 = sg (fun k => (1073741824 * stY W e j k - W (j * 48 + k) * e k) * W (i * 48 + k)) 48 + gr (rowF 48 W i) (rowF 48 W j) e := by
    unfold gr rowF
    rw [← sg_mul, ← sg_add]
    refine sg_congr fun k _ => ?_
    grind
  rw [h1, Int.add_sub_cancel]
  have h2 : ∀ k, k < 48 → ab (2 * (1073741824 * stY W e j k - W (j * 48 + k) * e k)) ≤ 1073741824 := fun k hk => by
    rw [(st_y he hW hk).1, ab_mul, show ab 2 = 2 from rfl]
    exact rsh_two (W (j * 48 + k) * e k)
  have h3 := sg_bd (y := fun k => W (i * 48 + k)) h2
  rw [show (fun k => 2 * (1073741824 * stY W e j k - W (j * 48 + k) * e k) * W (i * 48 + k)) = (fun k => 2 * ((1073741824 * stY W e j k - W (j * 48 + k) * e k) * W (i * 48 + k))) from funext fun k => Int.mul_assoc _ _ _, sg_mul, ab_mul] at h3
  have h4 := (hW i hi).1
  exact Int.le_trans h3 (by omega)
include he in
theorem gr_nonneg (a : Nat → Int) : 0 ≤ gr a a e := sg_nonneg fun k hk => Int.mul_nonneg (sq_nn (a k)) (he k hk).1
include he hW in
/-- The variance of row j. -/
theorem st_d (hd : ∃ k, k < 48 ∧ W (j * 48 + k) = 1073741824 ∧ 17179869184 ≤ e k) :
    2 * ab (1152921504606846976 * stD W e j - gr (rowF 48 W j) (rowF 48 W j) e) ≤ 75559016647418930266112 ∧ 17179869184 ≤ stD W e j ∧ stD W e j ≤ 43980465190000 ∧ dB W e j = false := by
  have hy := y_err he hW (Nat.le_refl j)
  have hg := (hW j (Nat.le_refl j)).2
  have h0 := gr_nonneg he (rowF 48 W j)
  have hr := rsh_err (sg (fun k => W (j * 48 + k) * stY W e j k) 48)
  have hlow : 1073741824 * 17179869184 ≤ sg (fun k => W (j * 48 + k) * stY W e j k) 48 := by
    obtain ⟨k, hk, h1, h2⟩ := hd
    have h3 : ∀ k, k < 48 → 0 ≤ W (j * 48 + k) * stY W e j k := fun k hk => by
      rw [(st_y he hW hk).1]
      by_cases hs : 0 ≤ W (j * 48 + k)
      · exact Int.mul_nonneg hs (cl_rshnn (Int.mul_nonneg hs (he k hk).1))
      · exact Int.mul_nonneg_of_nonpos_of_nonpos (by omega) (cl_rshnp (Int.mul_nonpos_of_nonpos_of_nonneg (by omega) (he k hk).1))
    have h4 := sg_one hk h3
    rw [h1, (st_y he hW hk).1, h1, cl_rshmul] at h4
    have := Int.mul_le_mul_of_nonneg_left h2 (show (0 : Int) ≤ 1073741824 by decide)
    omega
  obtain ⟨S, hS⟩ : ∃ S, sg (fun k => W (j * 48 + k) * stY W e j k) 48 = S := ⟨_, rfl⟩
  rw [hS] at hy hr hlow
  obtain ⟨G, hG⟩ : ∃ G, gr (rowF 48 W j) (rowF 48 W j) e = G := ⟨_, rfl⟩
  rw [hG] at hy hg h0 ⊢
  have hy' := ab_le (show ab (1073741824 * S - G) ≤ 37778931862957161709568 by omega)
  have d0 : 17179869184 ≤ rsh S 30 := by omega
  have d1 : rsh S 30 ≤ 43980465190000 := by omega
  have dv := dotV_sg (A := rowF 48 W j) (B := stY W e j) (n := 48) (fun k hk => ⟨sb_ab (rw_ent hW (Nat.le_refl j) hk) (by decide), (st_y he hW hk).2.2⟩) (by unfold rowF; rw [hS]; unfold SB; omega)
  have dv1 : dotV 30 (rowF 48 W j) (stY W e j) 48 = rsh S 30 := by rw [dv.1]; unfold rowF; rw [hS]
  have vv := cl_varV (a := rsh S 30) (by omega) (by omega)
  have hD : stD W e j = rsh S 30 := by unfold stD; rw [dv1, vv.1]
  refine ⟨?_, by rw [hD]; exact d0, by rw [hD]; exact d1, ?_⟩
  · rw [hD]
    have : ab (1152921504606846976 * rsh S 30 - G) ≤ 37779508323709465133056 := le_ab (by omega)
    omega
  · unfold dB; rw [dv.2, dv1, vv.2]; rfl
include he hW in
/-- The multiple of row j in row i. -/
theorem st_u (hd : ∃ k, k < 48 ∧ W (j * 48 + k) = 1073741824 ∧ 17179869184 ≤ e k) {i : Nat} (hi : i < j) :
    2 * ab (1073741824 * stD W e j * stU W e j i - gr (rowF 48 W i) (rowF 48 W j) e) ≤ 75559016647418930266112 + 1073741824 * stD W e j ∧ ab (stU W e j i) ≤ 56908316672 ∧ uB W e j i = false := by
  have ⟨hv, d0, d1, _⟩ := st_d he hW hd
  have hy := y_err he hW (Nat.le_of_lt hi)
  have hr := rsh_err (sg (fun k => W (i * 48 + k) * stY W e j k) 48)
  have h2 := gr_two (rowF 48 W i) (rowF 48 W j) e (fun k hk => (he k hk).1) 64
  have gi := (hW i (Nat.le_of_lt hi)).2
  have gj := (hW j (Nat.le_refl j)).2
  have g0 := gr_nonneg he (rowF 48 W i)
  obtain ⟨S, hS⟩ : ∃ S, sg (fun k => W (i * 48 + k) * stY W e j k) 48 = S := ⟨_, rfl⟩
  rw [hS] at hy hr
  obtain ⟨V, hV⟩ : ∃ G, gr (rowF 48 W j) (rowF 48 W j) e = G := ⟨_, rfl⟩
  obtain ⟨A, hA⟩ : ∃ G, gr (rowF 48 W i) (rowF 48 W j) e = G := ⟨_, rfl⟩
  obtain ⟨G, hG⟩ : ∃ G, gr (rowF 48 W i) (rowF 48 W i) e = G := ⟨_, rfl⟩
  rw [hV] at hv h2 gj
  rw [hG] at gi h2 g0
  rw [hA] at hy h2 ⊢
  obtain ⟨D, hD⟩ : ∃ D, stD W e j = D := ⟨_, rfl⟩
  rw [hD] at hv d0 d1 ⊢
  have hy' := ab_le (show ab (1073741824 * S - A) ≤ 37778931862957161709568 by omega)
  have hv' := ab_le (show ab (1152921504606846976 * D - V) ≤ 37779508323709465133056 by omega)
  have h2' := ab_le h2
  have pb : -1152921504606846976 ≤ rsh S 30 ∧ rsh S 30 ≤ 1152921504606846976 := by omega
  have dv := dotV_sg (A := rowF 48 W i) (B := stY W e j) (n := 48) (fun k hk => ⟨sb_ab (rw_ent hW (Nat.le_of_lt hi) hk) (by decide), (st_y he hW hk).2.2⟩) (by unfold rowF; rw [hS]; exact pb)
  have dv1 : dotV 30 (rowF 48 W i) (stY W e j) 48 = rsh S 30 := by rw [dv.1]; unfold rowF; rw [hS]
  have q := rdiv_err (x := rsh S 30 * 1073741824) (d := D) (by omega)
  obtain ⟨u, hu⟩ : ∃ u, rdiv (rsh S 30 * 1073741824) D = u := ⟨_, rfl⟩
  rw [hu] at q
  obtain ⟨x, hx⟩ : ∃ x, D * u = x := ⟨_, rfl⟩
  have ub : ab u ≤ 56908316672 := by
    refine Decidable.byContradiction fun hc => ?_
    have m1 := Int.mul_le_mul_of_nonneg_left (show 56908316673 ≤ ab u by omega) (show 0 ≤ D by omega)
    have m2 : D * ab u = ab x := by rw [← hx, ab_mul]; congr 1; unfold ab; omega
    rw [m2] at m1
    rw [hx] at q
    have : ab x = x ∨ ab x = -x := by unfold ab; omega
    omega
  have du := cl_divV (a := rsh S 30) (b := D) pb (by unfold SB; omega) (by omega) (by rw [hu]; exact sb_ab ub (by decide))
  have hU : stU W e j i = u := by unfold stU; rw [dv1, hD, du.1, hu]
  rw [hU]
  refine ⟨?_, ub, ?_⟩
  · rw [Int.mul_assoc, hx]
    rw [hx] at q
    have : ab (1073741824 * x - A) ≤ 37779508323709465133056 + 536870912 * D := le_ab (by omega)
    omega
  · unfold uB; rw [dv.2, dv1, hD, du.2]; rfl
include hW in
/-- What is left of row i. -/
theorem st_w {i k : Nat} (hi : i < j) (hk : k < 48) {u : Int} (hu : ab u ≤ 56908316672) : elV W u j i k = W (i * 48 + k) - rsh (u * W (j * 48 + k)) 30 ∧ elB W u j i k = false := by
  have h1 := rw_ent hW (Nat.le_refl j) hk
  have h2 := rw_ent hW (Nat.le_of_lt hi) hk
  have h3 : ab (u * W (j * 48 + k)) ≤ 1073741824 * 3729543441416192 := by
    rw [ab_mul]
    exact Int.le_trans (Int.mul_le_mul hu h1 (ab_bd _).1 (by decide)) (by decide)
  have h4 := rsh_ab h3
  have m := mulV_of (sb_ab hu (by decide)) (sb_ab h1 (by decide)) (sb_ab h4 (by decide))
  have h5 := ab_le h4
  have h6 := ab_le h2
  have s := cl_subV (a := W (i * 48 + k)) (b := rsh (u * W (j * 48 + k)) 30) (sb_ab h2 (by decide)) (sb_ab h4 (by decide)) (by unfold SB; omega)
  unfold elV elB
  rw [m.1, m.2, s.1, s.2]
  exact ⟨rfl, rfl⟩
end
end Go.Proofs.Ytipkdkeacdmnaaa
/- One elimination: what is left of the weighted products of rows. No program. -/
namespace Go.Proofs.Ytipkdkeacdmnaaa
theorem sg_wt {e : Nat → Int} (he : WtB e) : 0 ≤ sg e 48 ∧ sg e 48 ≤ 1056000000000000 := by
  refine ⟨sg_nonneg fun k hk => (he k hk).1, ?_⟩
  have h := sg_le (f := e) (g := fun _ => 22000000000000) (n := 48) fun k hk => (he k hk).2
  rw [sg_const] at h
  exact Int.le_trans h (by decide)
/-- Roundings times a row: by the row's square and the weights. -/
theorem rnd_row {e ρ b : Nat → Int} (he : WtB e) (hρ : ∀ k, k < 48 → 2 * ab (ρ k) ≤ 1073741824) : 4 * ab (sg (fun k => ρ k * b k * e k) 48) ≤ gr b b e + 1152921504606846976 * sg e 48 := by
  have h1 : ∀ k, k < 48 → -(b k * b k * e k + 1152921504606846976 * e k) ≤ 4 * (ρ k * b k * e k) ∧ 4 * (ρ k * b k * e k) ≤ b k * b k * e k + 1152921504606846976 * e k := by
    intro k hk
    have e0 := (he k hk).1
    have q := hρ k hk
    have p1 : ab (ρ k * b k) ≤ 536870912 * ab (b k) := by rw [ab_mul]; exact Int.mul_le_mul_of_nonneg_right (by omega) (ab_bd _).1
    have p2 := sq_nn (ab (b k) - 1073741824)
    have p3 : ab (b k) * ab (b k) = b k * b k := by
      rcases (show ab (b k) = b k ∨ ab (b k) = -(b k) by unfold ab; omega) with h | h <;> rw [h]
      exact Int.neg_mul_neg _ _
    have p4 : 4 * ab (ρ k * b k) ≤ b k * b k + 1152921504606846976 := by
      have : (ab (b k) - 1073741824) * (ab (b k) - 1073741824) = ab (b k) * ab (b k) - 2147483648 * ab (b k) + 1152921504606846976 := by grind
      omega
    have p5 := Int.mul_le_mul_of_nonneg_right p4 e0
    have p6 : ab (ρ k * b k * e k) = ab (ρ k * b k) * e k := by rw [ab_mul (ρ k * b k)]; congr 1; unfold ab; omega
    have p7 : 4 * ab (ρ k * b k * e k) ≤ b k * b k * e k + 1152921504606846976 * e k := by rw [p6]; rw [Int.mul_assoc, Int.add_mul] at p5; exact p5
    have := ab_bd (ρ k * b k * e k)
    omega
  have h2 := sg_abs h1
  rw [sg_mul, sg_add, sg_mul] at h2
  have : gr b b e = sg (fun k => b k * b k * e k) 48 := rfl
  unfold ab
  omega
theorem rnd_rnd {e ρ σ : Nat → Int} (he : WtB e) (hρ : ∀ k, k < 48 → 2 * ab (ρ k) ≤ 1073741824) (hσ : ∀ k, k < 48 → 2 * ab (σ k) ≤ 1073741824) : ab (sg (fun k => ρ k * σ k * e k) 48) ≤ 288230376151711744 * sg e 48 := by
  have h1 : ∀ k, k < 48 → ab (ρ k * σ k) ≤ 288230376151711744 := fun k hk => by
    rw [ab_mul]
    have a := hρ k hk
    have b := hσ k hk
    exact Int.le_trans (Int.mul_le_mul (show ab (ρ k) ≤ 536870912 by omega) (show ab (σ k) ≤ 536870912 by omega) (ab_bd _).1 (by decide)) (by decide)
  have h2 := sg_bd (y := e) h1
  rwa [show sg (fun k => ab (e k)) 48 = sg e 48 from sg_congr fun k hk => by have := (he k hk).1; unfold ab; omega] at h2
theorem ab_mul2 {u x U X : Int} (hu : ab u ≤ U) (hx : 2 * ab x ≤ X) : 2 * ab (u * x) ≤ U * X := by
  have h0 := (ab_bd u).1
  have h1 := (ab_bd x).1
  have h2 := Int.mul_le_mul hu hx (by omega) (by omega)
  rw [ab_mul]
  have : ab u * (2 * ab x) = 2 * (ab u * ab x) := by grind
  omega
section
variable {W e : Nat → Int} {j : Nat} (he : WtB e) (hW : RwB W e j) (hd : ∃ k, k < 48 ∧ W (j * 48 + k) = 1073741824 ∧ 17179869184 ≤ e k)
/-- What is taken away from row i. -/
def tkR (W e : Nat → Int) (j i : Nat) : Nat → Int := fun k => rsh (stU W e j i * W (j * 48 + k)) 30
def lfR (W e : Nat → Int) (j i : Nat) : Nat → Int := fun k => rowF 48 W i k - tkR W e j i k
include he hW hd in
theorem pair_raw {i l : Nat} (hi : i < j) (hl : l < j) : ∃ Z1 Z2 Z3 X1 X2 X3 : Int,
    1073741824 * 1073741824 * (gr (lfR W e j i) (lfR W e j l) e - gr (rowF 48 W i) (rowF 48 W l) e + stU W e j i * stU W e j l * stD W e j) = 1073741824 * X1 + 1073741824 * X2 - X3 - 1073741824 * Z1 - 1073741824 * Z2 - Z3 ∧
    2 * ab X1 ≤ 56908316672 * 122782681640000000000000 ∧ 2 * ab X2 ≤ 56908316672 * 122782681640000000000000 ∧ 2 * ab X3 ≤ 3238556506440633155584 * 75559016647418930266112 ∧
    4 * ab Z1 ≤ gr (lfR W e j l) (lfR W e j l) e + 1217485108864830406656000000000000 ∧ 4 * ab Z2 ≤ gr (lfR W e j i) (lfR W e j i) e + 1217485108864830406656000000000000 ∧ ab Z3 ≤ 304371277216207601664000000000000 := by
  have ⟨hv, d0, d1, _⟩ := st_d he hW hd
  have hu := st_u he hW hd hi
  have ht := st_u he hW hd hl
  obtain ⟨E0, E1⟩ := sg_wt he
  have hρ : ∀ i k, 2 * ab (1073741824 * tkR W e j i k - stU W e j i * rowF 48 W j k) ≤ 1073741824 := fun i k => rsh_two _
  have core := el_core (a := rowF 48 W i) (b := rowF 48 W l) (v := rowF 48 W j) (e := e) (r := tkR W e j i) (s := tkR W e j l) (ρ := fun k => 1073741824 * tkR W e j i k - stU W e j i * rowF 48 W j k) (σ := fun k => 1073741824 * tkR W e j l k - stU W e j l * rowF 48 W j k)
    (O := 1073741824) (u := stU W e j i) (t := stU W e j l) (d := stD W e j) (εa := 1073741824 * stD W e j * stU W e j i - gr (rowF 48 W i) (rowF 48 W j) e) (εb := 1073741824 * stD W e j * stU W e j l - gr (rowF 48 W l) (rowF 48 W j) e) (εv := 1073741824 * 1073741824 * stD W e j - gr (rowF 48 W j) (rowF 48 W j) e)
    (fun k _ => by omega) (fun k _ => by omega) (by omega) (by omega) (by omega)
  have z1 := rnd_row (b := fun k => rowF 48 W l k - tkR W e j l k) he fun k _ => hρ i k
  have z2 := rnd_row (b := fun k => rowF 48 W i k - tkR W e j i k) he fun k _ => hρ l k
  have z3 := rnd_rnd he (fun k _ => hρ i k) fun k _ => hρ l k
  have x1 := ab_mul2 hu.2.1 (show 2 * ab (1073741824 * stD W e j * stU W e j l - gr (rowF 48 W l) (rowF 48 W j) e) ≤ 122782681640000000000000 by omega)
  have x2 := ab_mul2 ht.2.1 (show 2 * ab (1073741824 * stD W e j * stU W e j i - gr (rowF 48 W i) (rowF 48 W j) e) ≤ 122782681640000000000000 by omega)
  have ut : ab (stU W e j i * stU W e j l) ≤ 3238556506440633155584 := by
    rw [ab_mul]
    exact Int.le_trans (Int.mul_le_mul hu.2.1 ht.2.1 (ab_bd _).1 (by decide)) (by decide)
  have x3 := ab_mul2 ut (show 2 * ab (1073741824 * 1073741824 * stD W e j - gr (rowF 48 W j) (rowF 48 W j) e) ≤ 75559016647418930266112 by rw [show (1073741824 : Int) * 1073741824 = 1152921504606846976 from rfl]; exact hv)
  refine ⟨_, _, _, _, _, _, ?_, x1, x2, x3, Int.le_trans z1 ?_, Int.le_trans z2 ?_, Int.le_trans z3 ?_⟩
  · unfold lfR
    rw [Int.mul_add, Int.mul_sub, core]
    omega
  · unfold lfR; omega
  · unfold lfR; omega
  · omega
include he hW hd in
/-- The squares' sum of what is left of a row is no greater, but for roundings. -/
theorem pair_own {i : Nat} (hi : i < j) : gr (lfR W e j i) (lfR W e j i) e ≤ gr (rowF 48 W i) (rowF 48 W i) e + 116056878683004400771792896 := by
  obtain ⟨Z1, Z2, Z3, X1, X2, X3, h, x1, x2, x3, z1, z2, z3⟩ := pair_raw he hW hd hi hi
  have d0 := (st_d he hW hd).2.1
  have hg := (hW i (Nat.le_of_lt hi)).2
  have g0 := gr_nonneg he (rowF 48 W i)
  have g1 := gr_nonneg he (lfR W e j i)
  have q := Int.mul_nonneg (sq_nn (stU W e j i)) (show 0 ≤ stD W e j by omega)
  generalize stU W e j i * stU W e j i * stD W e j = y at *
  generalize gr (lfR W e j i) (lfR W e j i) e = G' at *
  generalize gr (rowF 48 W i) (rowF 48 W i) e = G at *
  have a1 := ab_bd X1
  have a2 := ab_bd X2
  have a3 := ab_bd X3
  have b1 := ab_bd Z1
  have b2 := ab_bd Z2
  have b3 := ab_bd Z3
  omega
include he hW hd in
theorem pair_two {i l : Nat} (hi : i < j) (hl : l < j) : ab (gr (lfR W e j i) (lfR W e j l) e - gr (rowF 48 W i) (rowF 48 W l) e + stU W e j i * stU W e j l * stD W e j) ≤ 116056878683004400771792896 := by
  obtain ⟨Z1, Z2, Z3, X1, X2, X3, h, x1, x2, x3, z1, z2, z3⟩ := pair_raw he hW hd hi hl
  have o1 := pair_own he hW hd hi
  have o2 := pair_own he hW hd hl
  have hg := (hW i (Nat.le_of_lt hi)).2
  have hg2 := (hW l (Nat.le_of_lt hl)).2
  generalize gr (lfR W e j i) (lfR W e j l) e - gr (rowF 48 W i) (rowF 48 W l) e + stU W e j i * stU W e j l * stD W e j = y at *
  generalize gr (lfR W e j i) (lfR W e j i) e = G' at *
  generalize gr (rowF 48 W i) (rowF 48 W i) e = G at *
  generalize gr (lfR W e j l) (lfR W e j l) e = F' at *
  generalize gr (rowF 48 W l) (rowF 48 W l) e = F at *
  have a1 := ab_bd X1
  have a2 := ab_bd X2
  have a3 := ab_bd X3
  have b1 := ab_bd Z1
  have b2 := ab_bd Z2
  have b3 := ab_bd Z3
  exact le_ab (by omega)
end
end Go.Proofs.Ytipkdkeacdmnaaa
/- All eliminations of a run: what comes out is the weighted products of the rows, within roundings. No program. -/
namespace Go.Proofs.Ytipkdkeacdmnaaa
/-- Row j has One where the weight is great. -/
def Nrm (W e : Nat → Int) (j : Nat) : Prop := ∃ k, k < 48 ∧ W (j * 48 + k) = 1073741824 ∧ 17179869184 ≤ e k
/-- Row j is One alone, where no other row ahead has a number. -/
def Pln (W e : Nat → Int) (j : Nat) : Prop := ∃ k0, k0 < 48 ∧ W (j * 48 + k0) = 1073741824 ∧ 1 ≤ e k0 ∧ (∀ k, k < 48 → k ≠ k0 → W (j * 48 + k) = 0) ∧ ∀ i, i < j → W (i * 48 + k0) = 0
theorem cl_orB {p : Nat → Bool} : ∀ {n : Nat}, (∀ i, i < n → p i = false) → orB p n = false
  | 0, _ => rfl
  | n + 1, h => by unfold orB; rw [cl_orB (n := n) fun i hi => h i (by omega), h n (by omega)]; rfl
theorem sg_zero {f : Nat → Int} {n : Nat} (h : ∀ k, k < n → f k = 0) : sg f n = 0 := by
  rw [sg_congr h, sg_const]; simp
theorem sg_only {f : Nat → Int} {a : Nat} : ∀ {n : Nat}, a < n → (∀ k, k < n → k ≠ a → f k = 0) → sg f n = f a
  | 0, h, _ => absurd h (Nat.not_lt_zero _)
  | n + 1, h, h0 => by
    unfold sg
    by_cases e : a = n
    · subst e; rw [sg_zero fun k hk => h0 k (by omega) (by omega)]; omega
    · rw [sg_only (n := n) (by omega) fun k hk => h0 k (by omega), h0 n (by omega) (by omega)]; omega
theorem row_lt {W e : Nat → Int} {j i k : Nat} (hi : i < j) (hk : k < 48) : elW W e j j 0 (i * 48 + k) = elV W (stU W e j i) j i k := by
  have e1 : (i * 48 + k) / 48 = i := by omega
  have e2 : (i * 48 + k) % 48 = k := by omega
  unfold elW; rw [e1, e2, if_pos (.inl hi)]
theorem row_ge {W e : Nat → Int} {j i k : Nat} (hi : j ≤ i) (hk : k < 48) : elW W e j j 0 (i * 48 + k) = W (i * 48 + k) := by
  have e1 : (i * 48 + k) / 48 = i := by omega
  unfold elW; rw [e1, if_neg (by omega)]
/-- What a stage does. -/
structure StO (W e : Nat → Int) (j : Nat) : Prop where
  flag : stageH W e j = false
  u : ∀ i, i < j → ab (stU W e j i) ≤ 56908316672
  w : ∀ i, i < j → ∀ k, k < 48 → elW W e j j 0 (i * 48 + k) = W (i * 48 + k) - rsh (stU W e j i * W (j * 48 + k)) 30
  own : ∀ i, i < j → gr (lfR W e j i) (lfR W e j i) e ≤ gr (rowF 48 W i) (rowF 48 W i) e + 116056878683004400771792896
  two : ∀ i l, i < j → l < j → ab (gr (lfR W e j i) (lfR W e j l) e - gr (rowF 48 W i) (rowF 48 W l) e + stU W e j i * stU W e j l * stD W e j) ≤ 116056878683004400771792896
section
variable {W e : Nat → Int} {j : Nat} (he : WtB e) (hW : RwB W e j)
include he hW in
theorem stage_flag (hd : dB W e j = false) (hu : ∀ i, i < j → uB W e j i = false ∧ ab (stU W e j i) ≤ 56908316672) : stageH W e j = false := by
  unfold stageH
  rw [hd, cl_orB fun k hk => (st_y he hW hk).2.1, cl_orB]; rfl
  intro i hi
  unfold rowB
  rw [(hu i hi).1, cl_orB fun k hk => (st_w hW hi hk (hu i hi).2).2]; rfl
include he hW in
theorem nrm_out (hd : Nrm W e j) : StO W e j := by
  have d := st_d he hW hd
  refine ⟨stage_flag he hW d.2.2.2 fun i hi => ⟨(st_u he hW hd hi).2.2, (st_u he hW hd hi).2.1⟩, fun i hi => (st_u he hW hd hi).2.1, fun i hi k hk => ?_, fun i hi => pair_own he hW hd hi, fun i l hi hl => pair_two he hW hd hi hl⟩
  rw [row_lt hi hk, (st_w hW hi hk (st_u he hW hd hi).2.1).1]
include he hW in
theorem pln_y {k0 : Nat} (h1 : W (j * 48 + k0) = 1073741824) (h3 : ∀ k, k < 48 → k ≠ k0 → W (j * 48 + k) = 0) {k : Nat} (hk : k < 48) : stY W e j k = if k = k0 then e k0 else 0 := by
  rw [(st_y he hW hk).1]
  by_cases h : k = k0
  · rw [if_pos h, h, h1, cl_rshmul]
  · rw [if_neg h, h3 k hk h, Int.zero_mul]; rfl
include he hW in
theorem pln_d (hd : Pln W e j) : ∃ k0, k0 < 48 ∧ stD W e j = e k0 ∧ dB W e j = false ∧ (∀ i, i < j → stU W e j i = 0 ∧ uB W e j i = false) ∧ W (j * 48 + k0) = 1073741824 := by
  obtain ⟨k0, hk0, h1, h2, h3, h4⟩ := hd
  have hy := fun {k} (hk : k < 48) => pln_y he hW h1 h3 hk
  have e0 := he k0 hk0
  have hs : sg (fun k => W (j * 48 + k) * stY W e j k) 48 = 1073741824 * e k0 := by
    rw [sg_only hk0 fun k hk hne => by rw [h3 k hk hne, Int.zero_mul], h1, hy hk0, if_pos rfl]
  have dv := dotV_sg (A := rowF 48 W j) (B := stY W e j) (n := 48) (fun k hk => ⟨sb_ab (rw_ent hW (Nat.le_refl j) hk) (by decide), (st_y he hW hk).2.2⟩) (by unfold rowF; rw [hs, cl_rshmul]; unfold SB; omega)
  have dv1 : dotV 30 (rowF 48 W j) (stY W e j) 48 = e k0 := by rw [dv.1]; unfold rowF; rw [hs, cl_rshmul]
  have vv := cl_varV (a := e k0) (by omega) (by omega)
  have hD : stD W e j = e k0 := by unfold stD; rw [dv1, vv.1]
  refine ⟨k0, hk0, hD, by unfold dB; rw [dv.2, dv1, vv.2]; rfl, fun i hi => ?_, h1⟩
  have hz : sg (fun k => W (i * 48 + k) * stY W e j k) 48 = 0 := sg_zero fun k hk => by
    rw [hy hk]
    split
    · next h => rw [h, h4 i hi, Int.zero_mul]
    · exact Int.mul_zero _
  have du := dotV_sg (A := rowF 48 W i) (B := stY W e j) (n := 48) (fun k hk => ⟨sb_ab (rw_ent hW (Nat.le_of_lt hi) hk) (by decide), (st_y he hW hk).2.2⟩) (by unfold rowF; rw [hz]; unfold SB; decide)
  have du1 : dotV 30 (rowF 48 W i) (stY W e j) 48 = 0 := by rw [du.1]; unfold rowF; rw [hz]; rfl
  have r0 : rdiv (0 * 1073741824) (e k0) = 0 := by rw [Int.zero_mul]; exact cl_rdiv0 (by omega)
  have q := cl_divV (a := 0) (b := e k0) (by unfold SB; decide) (by unfold SB; omega) (by omega) (by rw [r0]; unfold SB; decide)
  exact ⟨by unfold stU; rw [du1, hD, q.1, r0], by unfold uB; rw [du.2, du1, hD, q.2]; rfl⟩
include he hW in
theorem pln_out (hd : Pln W e j) : StO W e j := by
  obtain ⟨k0, hk0, hD, hB, hu, h1⟩ := pln_d he hW hd
  have hl : ∀ i, i < j → lfR W e j i = rowF 48 W i := fun i hi => by
    funext k
    unfold lfR tkR
    rw [(hu i hi).1, Int.zero_mul, show rsh 0 30 = 0 by decide, Int.sub_zero]
  refine ⟨stage_flag he hW hB fun i hi => ⟨(hu i hi).2, by rw [(hu i hi).1]; decide⟩, fun i hi => by rw [(hu i hi).1]; decide, fun i hi k hk => ?_, fun i hi => ?_, fun i l hi hl2 => ?_⟩
  · rw [row_lt hi hk, (st_w hW hi hk (by rw [(hu i hi).1]; decide)).1]
  · rw [hl i hi]; omega
  · rw [hl i hi, hl l hl2, (hu i hi).1]
    simp [ab]
end
/-- The multiple of the row of stage m in row i, and that row's variance. -/
def UU (W e : Nat → Int) (i m : Nat) : Int := stU (WN W e m) e (23 - m) i
def DD (W e : Nat → Int) (m : Nat) : Int := stD (WN W e m) e (23 - m)
/-- What all stages ahead took of the product of rows i and l. -/
def SS (W e : Nat → Int) (i l n : Nat) : Int := sg (fun m => UU W e i m * UU W e l m * DD W e m) n
structure RnI (W e : Nat → Int) (n : Nat) : Prop where
  flag : HN W e n = false
  own : ∀ i, i < 24 - n → gr (rowF 48 (WN W e n) i) (rowF 48 (WN W e n) i) e ≤ gr (rowF 48 W i) (rowF 48 W i) e + n * 116056878683004400771792896
  two : ∀ i l, i < 24 - n → l < 24 - n → ab (gr (rowF 48 (WN W e n) i) (rowF 48 (WN W e n) l) e - gr (rowF 48 W i) (rowF 48 W l) e + SS W e i l n) ≤ n * 116056878683004400771792896
theorem run_step {W e : Nat → Int} {n : Nat} (hn : n < 24) (I : RnI W e n) (S : StO (WN W e n) e (23 - n)) : RnI W e (n + 1) := by
  have hrow : ∀ i, i < 24 - (n + 1) → gr (rowF 48 (WN W e (n + 1)) i) = gr (lfR (WN W e n) e (23 - n) i) → True := fun _ _ _ => trivial
  clear hrow
  have hr : ∀ i, i < 23 - n → ∀ k, k < 48 → rowF 48 (WN W e (n + 1)) i k = lfR (WN W e n) e (23 - n) i k := fun i hi k hk => S.w i hi k hk
  have hg : ∀ i l, i < 23 - n → l < 23 - n → gr (rowF 48 (WN W e (n + 1)) i) (rowF 48 (WN W e (n + 1)) l) e = gr (lfR (WN W e n) e (23 - n) i) (lfR (WN W e n) e (23 - n) l) e := fun i l hi hl => sg_congr fun k hk => by rw [hr i hi k hk, hr l hl k hk]
  refine ⟨?_, fun i hi => ?_, fun i l hi hl => ?_⟩
  · show (HN W e n || stageH (WN W e n) e (23 - n)) = false
    rw [I.flag, S.flag]; rfl
  · rw [hg i i (by omega) (by omega)]
    have a := S.own i (by omega)
    have b := I.own i (by omega)
    rw [Int.natCast_add, Int.add_mul]
    omega
  · rw [hg i l (by omega) (by omega)]
    have a := S.two i l (by omega) (by omega)
    have b := I.two i l (by omega) (by omega)
    have e1 : SS W e i l (n + 1) = SS W e i l n + stU (WN W e n) e (23 - n) i * stU (WN W e n) e (23 - n) l * stD (WN W e n) e (23 - n) := rfl
    have c := ab_add (gr (lfR (WN W e n) e (23 - n) i) (lfR (WN W e n) e (23 - n) l) e - gr (rowF 48 (WN W e n) i) (rowF 48 (WN W e n) l) e + stU (WN W e n) e (23 - n) i * stU (WN W e n) e (23 - n) l * stD (WN W e n) e (23 - n)) (gr (rowF 48 (WN W e n) i) (rowF 48 (WN W e n) l) e - gr (rowF 48 W i) (rowF 48 W l) e + SS W e i l n)
    rw [e1, Int.natCast_add, Int.add_mul]
    refine Int.le_trans (Int.le_of_eq ?_) (Int.le_trans c (Int.le_trans (Int.add_le_add a b) (Int.le_of_eq ?_)))
    · congr 1; omega
    · omega
/-- What a run needs: P tells more of the rows, from which their sizes come. -/
structure RunH (W e : Nat → Int) (P : Nat → Prop) : Prop where
  he : WtB e
  p0 : P 0
  g : ∀ i, i < 24 → gr (rowF 48 W i) (rowF 48 W i) e ≤ 50700000000000000000000000000000
  hN : ∀ n, n < 24 → P n → (∀ i, i ≤ 23 - n → gr (rowF 48 (WN W e n) i) (rowF 48 (WN W e n) i) e ≤ 50706024009129176059868128215040) → ∀ i, i ≤ 23 - n → sg (fun k => ab (WN W e n (i * 48 + k))) 48 ≤ 50000000000000
  hS : ∀ n, n < 24 → P n → Nrm (WN W e n) e (23 - n) ∨ Pln (WN W e n) e (23 - n)
  hP : ∀ n, n < 24 → P n → RwB (WN W e n) e (23 - n) → StO (WN W e n) e (23 - n) → P (n + 1)
theorem RunH.rw {W e : Nat → Int} {P : Nat → Prop} (H : RunH W e P) {n : Nat} (hn : n < 24) (p : P n) (I : RnI W e n) : RwB (WN W e n) e (23 - n) := by
  have g : ∀ i, i ≤ 23 - n → gr (rowF 48 (WN W e n) i) (rowF 48 (WN W e n) i) e ≤ 50706024009129176059868128215040 := fun i hi => by
    have a := I.own i (by omega)
    have b := H.g i (by omega)
    omega
  exact fun i hi => ⟨H.hN n hn p g i hi, g i hi⟩
theorem RunH.all {W e : Nat → Int} {P : Nat → Prop} (H : RunH W e P) : ∀ n, n ≤ 24 → P n ∧ RnI W e n
  | 0, _ => ⟨H.p0, rfl, fun i hi => by show gr (rowF 48 W i) (rowF 48 W i) e ≤ _; omega, fun i l _ _ => by
      show ab (gr (rowF 48 W i) (rowF 48 W l) e - gr (rowF 48 W i) (rowF 48 W l) e + 0) ≤ _
      simp [ab]⟩
  | n + 1, hn => by
    obtain ⟨p, I⟩ := H.all n (by omega)
    have hW := H.rw (by omega) p I
    have S : StO (WN W e n) e (23 - n) := (H.hS n (by omega) p).elim (nrm_out H.he hW) (pln_out H.he hW)
    exact ⟨H.hP n (by omega) p hW S, run_step (by omega) I S⟩
theorem RunH.st {W e : Nat → Int} {P : Nat → Prop} (H : RunH W e P) {n : Nat} (hn : n < 24) : P n ∧ RnI W e n ∧ RwB (WN W e n) e (23 - n) ∧ StO (WN W e n) e (23 - n) := by
  obtain ⟨p, I⟩ := H.all n (by omega)
  have hW := H.rw (by omega) p I
  exact ⟨p, I, hW, (H.hS n (by omega) p).elim (nrm_out H.he hW) (pln_out H.he hW)⟩
/-- The variances and multiples of a run are small. -/
theorem RunH.dd {W e : Nat → Int} {P : Nat → Prop} (H : RunH W e P) {n : Nat} (hn : n < 24) : 1 ≤ DD W e n ∧ DD W e n ≤ 43980465190000 := by
  obtain ⟨p, I, hW, S⟩ := H.st hn
  rcases H.hS n hn p with h | h
  · have := st_d H.he hW h
    unfold DD; omega
  · obtain ⟨k0, hk0, h1, _, _, _⟩ := pln_d H.he hW h
    obtain ⟨k1, hk1, h2, h3, h4, _⟩ := h
    unfold DD
    have := H.he k0 hk0
    rw [h1]
    have : 1 ≤ e k0 := by
      by_cases h5 : k0 = k1
      · rw [h5]; exact h3
      · obtain ⟨k2, hk2, h6, _, _, h7⟩ := pln_d H.he hW ⟨k1, hk1, h2, h3, h4, by assumption⟩
        have d : 1 ≤ stD (WN W e n) e (23 - n) := by unfold stD varV clampV; split; omega; split; omega; split; omega; omega
        omega
    omega
theorem RunH.uu {W e : Nat → Int} {P : Nat → Prop} (H : RunH W e P) {n i : Nat} (hi : i < 23 - n) (hn : n < 24) : ab (UU W e i n) ≤ 56908316672 := (H.st hn).2.2.2.u i hi
/-- What comes out for rows i and l, i not behind l. -/
theorem RunH.pair {W e : Nat → Int} {P : Nat → Prop} (H : RunH W e P) {i l : Nat} (hi : i ≤ l) (hl : l < 24) (hd : Nrm (WN W e (23 - l)) e l) :
    ab (1073741824 * (if i = l then 1073741824 else UU W e i (23 - l)) * DD W e (23 - l) + SS W e i l (23 - l) - gr (rowF 48 W i) (rowF 48 W l) e) ≤ 24 * 116056878683004400771792896 := by
  obtain ⟨p, I, hW, S⟩ := H.st (n := 23 - l) (by omega)
  have e1 : 23 - (23 - l) = l := by omega
  rw [e1] at hW S
  have two := I.two i l (by omega) (by omega)
  have key : 2 * ab (1073741824 * (if i = l then 1073741824 else UU W e i (23 - l)) * DD W e (23 - l) - gr (rowF 48 (WN W e (23 - l)) i) (rowF 48 (WN W e (23 - l)) l) e) ≤ 75559016647418930266112 + 1073741824 * 43980465190000 := by
    have d := st_d H.he hW hd
    unfold DD UU
    rw [e1]
    by_cases h : i = l
    · subst h
      rw [if_pos rfl]
      have : (1073741824 : Int) * 1073741824 = 1152921504606846976 := rfl
      rw [this]
      omega
    · rw [if_neg h]
      have u := (st_u H.he hW hd (i := i) (by omega)).1
      rw [Int.mul_assoc, Int.mul_comm (stU _ _ _ _), ← Int.mul_assoc]
      omega
  obtain ⟨X, hX⟩ : ∃ X, 1073741824 * (if i = l then 1073741824 else UU W e i (23 - l)) * DD W e (23 - l) = X := ⟨_, rfl⟩
  rw [hX] at key ⊢
  have a := ab_bd (X - gr (rowF 48 (WN W e (23 - l)) i) (rowF 48 (WN W e (23 - l)) l) e)
  have b := ab_bd (gr (rowF 48 (WN W e (23 - l)) i) (rowF 48 (WN W e (23 - l)) l) e - gr (rowF 48 W i) (rowF 48 W l) e + SS W e i l (23 - l))
  exact le_ab (by omega)
end Go.Proofs.Ytipkdkeacdmnaaa
/- Small laws on worlds: a call that may set one flag cell and makes new blocks ('Upd'). Plain: no program. -/
namespace Go.Proofs.Ytipkdkeacdmnaaa
open Go.RowKit

theorem setCell_self (w : World) (c : Addr) (v : Value) (h : w.cell? c = some v) : w.setCell c v = w := by
  have hb := World.block_lt_of_cell? w c h
  have hg : w.heap[c.block]? = some w.heap[c.block] := by simp [hb]
  unfold World.cell? at h
  rw [hg] at h
  have hh : (w.setCell c v).heap = w.heap := by
    apply Array.ext_getElem?
    intro i
    simp only [World.setCell, Array.getElem?_modify]
    by_cases hi : c.block = i
    · subst hi
      rw [if_pos rfl, hg]
      cases hx : w.heap[c.block] with
      | cells cc e f =>
        rw [hx] at h
        simp only at h
        by_cases hs : c.spot.isSome
        · simp [hs] at h
        · simp only [hs, if_false, Bool.false_eq_true] at h
          simp only [Option.map_some, hs, if_false, Bool.false_eq_true]
          congr 2
          apply Array.ext_getElem?
          intro j
          rw [Array.getElem?_setIfInBounds]
          by_cases hj : c.off = j
          · subst hj
            rw [if_pos rfl]
            split
            · exact h.symm
            · rename_i hlt
              rw [Array.getElem?_eq_none (by omega)] at h; cases h
          · rw [if_neg hj]
      | _ => rw [hx] at h; simp at h
    · rw [if_neg hi]
  show ({ w with heap := (w.setCell c v).heap } : World) = w
  rw [hh]

/-- The flag's cell holds h now; what was there is else as it was; there may be new blocks. -/
def Upd (c : Addr) (h : Bool) (w w' : World) : Prop := Below w.heap.size (w.setCell c (.bool h)) w'

theorem setCell_size (w : World) (c : Addr) (v : Value) : (w.setCell c v).heap.size = w.heap.size := by simp [World.setCell]

theorem Upd.size {c : Addr} {h : Bool} {w w' : World} (u : Upd c h w w') : w.heap.size ≤ w'.heap.size := by
  have := Below.size u; rwa [setCell_size] at this
theorem Upd.block {c : Addr} {h : Bool} {w w' : World} (u : Upd c h w w') {k : Nat} (hk : k < w.heap.size) (hn : k ≠ c.block) : w'.heap[k]? = w.heap[k]? := by
  rw [Below.block u k hk]; exact Below.heap_setCell w c _ k hn
theorem Upd.cellc {c : Addr} {h h0 : Bool} {w w' : World} (u : Upd c h w w') (hc : w.cell? c = some (.bool h0)) : w'.cell? c = some (.bool h) := by
  have hb := World.block_lt_of_cell? w c hc
  rw [Below.cell u hb]; exact World.cell?_setCell_same _ _ _ hc
theorem Upd.cell {c : Addr} {h : Bool} {w w' : World} (u : Upd c h w w') {a : Addr} (ha : a.block < w.heap.size) (hn : c ≠ a) : w'.cell? a = w.cell? a := by
  rw [Below.cell u ha]; exact World.cell?_setCell_other w c a _ hn
theorem Upd.frozen {c : Addr} {h : Bool} {w w' : World} (u : Upd c h w w') {a : Addr} (ha : a.block < w.heap.size) : w'.frozen? a = w.frozen? a := by
  rw [Below.frozen u ha]; exact World.frozen?_setCell ..
theorem Upd.refl {c : Addr} {h : Bool} {w : World} (hc : w.cell? c = some (.bool h)) : Upd c h w w := by
  unfold Upd; rw [setCell_self w c _ hc]; exact Below.refl _ _
theorem Upd.set (c : Addr) (h : Bool) (w : World) : Upd c h w (w.setCell c (.bool h)) := Below.refl _ _
/-- Behind a call that leaves what was there. -/
theorem Upd.then {c : Addr} {h : Bool} {w w1 w2 : World} (u : Upd c h w w1) (b : Below w1.heap.size w1 w2) : Upd c h w w2 :=
  Below.trans u (b.mono u.size)
theorem Upd.then' {c : Addr} {h : Bool} {w w1 w2 : World} (u : Upd c h w w1) (b : Below w.heap.size w1 w2) : Upd c h w w2 :=
  Below.trans u b
theorem below_setCell2 {B : Nat} {w w1 : World} (b : Below B w w1) (c : Addr) (v : Value) : Below B (w.setCell c v) (w1.setCell c v) := by
  refine ⟨b.os, b.tape, b.output, by simp [World.setCell]; exact b.size, fun k hk => ?_⟩
  simp only [World.setCell, Array.getElem?_modify]
  rw [b.block k hk]
theorem Upd.after {c : Addr} {h : Bool} {w w1 w2 : World} (b : Below w.heap.size w w1) (u : Upd c h w1 w2) : Upd c h w w2 := by
  have := below_setCell2 b c (.bool h)
  exact this.trans (Below.mono u b.size)
theorem setCell_setCell (w : World) (c : Addr) (v v' : Value) : (w.setCell c v).setCell c v' = w.setCell c v' := by
  unfold World.setCell
  congr 1
  apply Array.ext_getElem?
  intro i
  simp only [Array.getElem?_modify]
  by_cases hi : c.block = i
  · subst hi
    simp only [if_pos]
    cases w.heap[c.block]? with
    | none => rfl
    | some o =>
      cases o <;> simp only [Option.map_some]
      split <;> simp_all
  · simp [hi]
theorem Upd.trans {c : Addr} {h h' : Bool} {w w1 w2 : World} (u : Upd c h w w1) (u' : Upd c h' w1 w2) : Upd c h' w w2 := by
  have b := below_setCell2 u c (.bool h')
  rw [setCell_setCell] at b
  exact b.trans (Below.mono u' u.size)
theorem Upd.alloc {c : Addr} {h : Bool} {w w1 : World} (u : Upd c h w w1) (o : Obj) : Upd c h w (w1.alloc o) := u.then' ((Below.refl _ _).alloc u.size o)
theorem Upd.drew {c : Addr} {h : Bool} {w w1 : World} (u : Upd c h w w1) : Upd c h w w1.drew := Below.drew u
theorem Upd.setCell {c : Addr} {h : Bool} {w w1 : World} (u : Upd c h w w1) {p : Addr} (hp : w.heap.size ≤ p.block) (v : Value) : Upd c h w (w1.setCell p v) := u.then' ((Below.refl _ _).setCell hp v)
theorem bcell {W w1 : World} (hb : Below W.heap.size W w1) : (∀ b o, b < W.heap.size → w1.cell? ⟨b, o, none⟩ = W.cell? ⟨b, o, none⟩) ∧ (∀ b o, b < W.heap.size → w1.frozen? ⟨b, o, none⟩ = W.frozen? ⟨b, o, none⟩) :=
  ⟨fun b o h => hb.cell (p := ⟨b, o, none⟩) h, fun b o h => hb.frozen (p := ⟨b, o, none⟩) h⟩
theorem Below.after {w w1 w2 : World} (b : Below w.heap.size w w1) (b' : Below w1.heap.size w1 w2) : Below w.heap.size w w2 := b.trans (b'.mono b.size)
theorem retI {k : IntKind} {a b : Int} (h : a = b) : Ending.returned (.int k a) = .returned (.int k b) := by rw [h]
end Go.Proofs.Ytipkdkeacdmnaaa
