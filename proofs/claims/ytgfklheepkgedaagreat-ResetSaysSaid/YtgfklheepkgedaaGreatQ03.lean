/- Contracts of the program's functions and plain laws, part 3: they hold for all arguments. -/
import Derived.Test.YtgfklheepkgedaaGreatQ01
import Derived.Test.YtgfklheepkgedaaGreatQ02
import Derived.Tactics
import Derived.ProofKit
import Derived.OrdersHeld
import Derived.StillTail
import Derived.Deep.RegionHeld3
import Derived.Test.YtgfklheepkgedaaGreatProg
import Derived.WalkKit
import Derived.WalkSpells
import Derived.WalkLawsBesides
import Derived.KernelRfl
/- Plain numbers (2): Mul, Div, MulDiv as numbers. -/
namespace Go.Proofs.YtgfklheepkgedaaGreat
def mulV (a b s : Int) : Int := if s < 0 ∨ 120 < s then 0 else satV (rsh (satV a * satV b) s.toNat)
def mulH (a b s : Int) : Bool := satH a || satH b || (decide (s < 0 ∨ 120 < s) || satH (rsh (satV a * satV b) s.toNat))
/-- Divided; by nought: the bound on the number's side. -/
def byV (x d : Int) : Int := if d = 0 then (if x = 0 then 0 else if x < 0 then -1152921504606846976 else 1152921504606846976) else satV (rdiv x d)
def byH (x d : Int) : Bool := decide (d = 0) || satH (rdiv x d)
def divV (a b s : Int) : Int := if s < 0 ∨ 66 < s then 0 else byV (satV a * 2 ^ s.toNat) (satV b)
def divH (a b s : Int) : Bool := satH a || satH b || (decide (s < 0 ∨ 66 < s) || byH (satV a * 2 ^ s.toNat) (satV b))
/-- The sum of the products, and whether a number was clamped. -/
def dotS (A B : Nat → Int) : Nat → Int | 0 => 0 | n + 1 => dotS A B n + satV (A n) * satV (B n)
def dotB (A B : Nat → Int) : Nat → Bool | 0 => false | n + 1 => dotB A B n || satH (A n) || satH (B n)
def dotV (s : Int) (A B : Nat → Int) (n : Nat) : Int := if s < 0 ∨ 120 < s then 0 else satV (rsh (dotS A B n) s.toNat)
def dotH (s : Int) (A B : Nat → Int) (n : Nat) : Bool := if s < 0 ∨ 120 < s then true else dotB A B n || satH (rsh (dotS A B n) s.toNat)
/-- The sum of clamped numbers. -/
def sumS (A : Nat → Int) : Nat → Int | 0 => 0 | n + 1 => sumS A n + satV (A n)
def sumB (A : Nat → Int) : Nat → Bool | 0 => false | n + 1 => sumB A n || satH (A n)
theorem sumS_bd (A : Nat → Int) (n : Nat) : -(n * 1152921504606846976 : Int) ≤ sumS A n ∧ sumS A n ≤ (n * 1152921504606846976 : Int) := by
 induction n with
 | zero => simp [sumS]
 | succ n ih =>
  have := satV_bd (A n)
  simp only [sumS]
  omega
theorem prod_bd (a b : Int) : -1329227995784915872903807060280344576 ≤ satV a * satV b ∧ satV a * satV b ≤ 1329227995784915872903807060280344576 := by
 have ha := satV_bd a
 have hb := satV_bd b
 generalize satV a = x at *
 generalize satV b = y at *
 have e : ((x * y).natAbs : Int) ≤ 1152921504606846976 * 1152921504606846976 := by
  rw [Int.natAbs_mul, Int.natCast_mul]
  exact Int.mul_le_mul (by omega) (by omega) (by omega) (by decide)
 omega
theorem dotS_bd (A B : Nat → Int) (n : Nat) : -(n * 1329227995784915872903807060280344576 : Int) ≤ dotS A B n ∧ dotS A B n ≤ (n * 1329227995784915872903807060280344576 : Int) := by
 induction n with
 | zero => simp [dotS]
 | succ n ih =>
  have := prod_bd (A n) (B n)
  simp only [dotS]
  omega
theorem shift_bd (a s : Int) (_s0 : 0 ≤ s) (s1 : s ≤ 66) : -85070591730234615865843651857942052864 ≤ satV a * 2 ^ s.toNat ∧ satV a * 2 ^ s.toNat ≤ 85070591730234615865843651857942052864 := by
 have ha := satV_bd a
 generalize satV a = x at *
 have h : (2 : Nat) ^ s.toNat ≤ 2 ^ 66 := Nat.pow_le_pow_right (by decide) (by omega)
 have h3 : (2 : Nat) ^ 66 = 73786976294838206464 := by decide
 have h2 : ((2 ^ s.toNat : Nat) : Int) = 2 ^ s.toNat := by simp
 have e : ((x * 2 ^ s.toNat).natAbs : Int) ≤ 1152921504606846976 * 73786976294838206464 := by
  rw [Int.natAbs_mul, Int.natCast_mul, ← h2, Int.natAbs_natCast]
  exact Int.mul_le_mul (by omega) (by omega) (Int.natCast_nonneg _) (by decide)
 omega
theorem rdiv_sign (x d : Int) (h : rdiv x d ≠ 0) : rdiv x d < 0 ↔ ¬ ((0 ≤ x) = (0 < d)) := by
 unfold rdiv at *
 have h1 : (0 : Int) ≤ (((2 * x.natAbs + d.natAbs) / (2 * d.natAbs) : Nat) : Int) := Int.natCast_nonneg _
 generalize (((2 * x.natAbs + d.natAbs) / (2 * d.natAbs) : Nat) : Int) = q at *
 by_cases hc : (0 ≤ x) = (0 < d)
 ·rw [if_pos hc] at *; simp [hc]; omega
 ·rw [if_neg hc] at *; simp [hc]; omega
end Go.Proofs.YtgfklheepkgedaaGreat
/- Contracts of package fx (1): Clamp, Sat, end, round, Mul, Sub. -/
/- Contracts of package fx (2): round, by, Mul, Div, MulDiv. -/
namespace Go.Proofs.YtgfklheepkgedaaGreat
open Go.RowKit
set_option maxRecDepth 100000
theorem clampV_of {a lo hi : Int} (h0 : ¬ hi < lo) (h1 : ¬ a < lo) (h2 : ¬ hi < a) : clampV a lo hi = a ∧ clampH a lo hi = false := by
 simp [clampV, clampH, h0, h1, h2]
theorem clamp_any (c : Addr) (h : Bool) (a lo hi : Int) (w : World) (hc : w.cell? c = some (.bool h)) (hf : w.frozen? c = false) :
  Calls Tryz.prog 72 #[.pointer (some c), .int .i64 a, .int .i64 lo, .int .i64 hi] w fun e w' =>
   e = .returned (.int .i64 (clampV a lo hi)) ∧ w.setCell c (.bool (h || clampH a lo hi)) = w' := by
 by_cases h0 : hi < lo
 ·have e1 : clampV a lo hi = lo := by simp [clampV, h0]
  have e2 : (h || clampH a lo hi) = true := by simp [clampH, h0]
  rw [e1, e2]
  clear e1 e2
  go_enter Tryz.func72, Tryz.ntmps72
  go_wp2
  go_ret
  exact ⟨rfl, rfl⟩
 by_cases h1 : a < lo
 ·have e1 : clampV a lo hi = lo := by simp [clampV, h1]
  have e2 : (h || clampH a lo hi) = true := by simp [clampH, h1]
  rw [e1, e2]
  clear e1 e2
  go_enter Tryz.func72, Tryz.ntmps72
  go_wp2
  go_ret
  exact ⟨rfl, rfl⟩
 by_cases h2 : hi < a
 ·have e1 : clampV a lo hi = hi := by simp [clampV, h0, h1, h2]
  have e2 : (h || clampH a lo hi) = true := by simp [clampH, h2]
  rw [e1, e2]
  clear e1 e2
  go_enter Tryz.func72, Tryz.ntmps72
  go_wp2
  go_ret
  exact ⟨rfl, rfl⟩
 ·obtain ⟨e1, e2⟩ := clampV_of h0 h1 h2
  rw [e1, e2, Bool.or_false, setCell_self w c _ hc]
  clear e1 e2
  go_enter Tryz.func72, Tryz.ntmps72
  go_wp2
  go_ret
  exact ⟨rfl, rfl⟩

theorem sat_any (c : Addr) (h : Bool) (a : Int) (w : World) (hc : w.cell? c = some (.bool h)) (hf : w.frozen? c = false) :
  Calls Tryz.prog 81 #[.pointer (some c), .int .i64 a] w fun e w' => e = .returned (.int .i64 (satV a)) ∧ w.setCell c (.bool (h || satH a)) = w' := by
 have H := fun w hc hf => clamp_any c h a (-1152921504606846976) 1152921504606846976 w hc hf
 go_enter Tryz.func81, Tryz.ntmps81
 go_wp2_with (go_at_call 72; refine (clamp_any c h a _ _ _ hc hf).mono ?_; rintro e w' ⟨rfl, rfl⟩)
 go_ret
 exact ⟨rfl, rfl⟩

/-- The bound on a number's side. -/
def signV (neg : Bool) : Int := if neg then -1152921504606846976 else 1152921504606846976
theorem sign_any (neg : Bool) (w : World) : Calls Tryz.prog 115 #[.bool neg] w fun e w' => e = .returned (.int .i64 (signV neg)) ∧ w = w' := by
 cases neg
 all_goals
  go_enter Tryz.func115, Tryz.ntmps115
  go_wp2
  go_ret
  exact ⟨rfl, rfl⟩
theorem end_ok (c : Addr) (h : Bool) (a : Int) (neg : Bool) (w : World) (hc : w.cell? c = some (.bool h)) (hf : w.frozen? c = false) :
  Calls Tryz.prog 104 #[.pointer (some c), .int .i64 a, .bool true, .bool neg] w fun e w' => e = .returned (.int .i64 (satV a)) ∧ w.setCell c (.bool (h || satH a)) = w' := by
 go_enter Tryz.func104, Tryz.ntmps104
 go_wp2_with (go_at_call 81; refine (sat_any c h a _ hc hf).mono ?_; rintro e w' ⟨rfl, rfl⟩)
 go_ret
 exact ⟨rfl, rfl⟩
theorem end_no (c : Addr) (h : Bool) (a : Int) (neg : Bool) (w : World) (hc : w.cell? c = some (.bool h)) (hf : w.frozen? c = false) :
  Calls Tryz.prog 104 #[.pointer (some c), .int .i64 a, .bool false, .bool neg] w fun e w' => e = .returned (.int .i64 (signV neg)) ∧ w.setCell c (.bool true) = w' := by
 go_enter Tryz.func104, Tryz.ntmps104
 go_wp2_with (go_at_call 115; refine (sign_any neg _).mono ?_; rintro e w' ⟨rfl, rfl⟩)
 go_ret
 exact ⟨rfl, rfl⟩
/-- What was reckoned (x), clamped. -/
theorem end_any (c : Addr) (h : Bool) (x : Int) (neg : Bool) (w : World) (hc : w.cell? c = some (.bool h)) (hf : w.frozen? c = false) (hn : ¬ r64F x = true → neg = decide (x < 0)) :
  Calls Tryz.prog 104 #[.pointer (some c), .int .i64 (r64V x), .bool (r64F x), .bool neg] w fun e w' => e = .returned (.int .i64 (satV x)) ∧ w.setCell c (.bool (h || satH x)) = w' := by
 by_cases hx : r64F x = true
 ·have : r64V x = x := by simp [r64V, hx]
  rw [hx, this]
  exact end_ok c h x neg w hc hf
 ·have h2 : r64F x = false := by simpa using hx
  have h3 := hn hx
  rw [h2]
  refine (end_no c h _ neg w hc hf).mono fun e w' hh => ⟨hh.1.trans (retI ?_), ?_⟩
  ·subst h3
   by_cases h0 : x < 0
   ·simp [r64F] at h2; simp [signV, satV, clampV, h0]; omega
   ·simp [r64F] at h2; simp [signV, satV, clampV, h0]; omega
  ·rw [← hh.2]
   have : satH x = true := by simp [r64F] at h2; simp [satH, clampH]; omega
   simp [this]
theorem sub_any (c : Addr) (h : Bool) (a b : Int) (w : World) (hc : w.cell? c = some (.bool h)) (hf : w.frozen? c = false) :
  Calls Tryz.prog 73 #[.pointer (some c), .int .i64 a, .int .i64 b] w fun e w' =>
   e = .returned (.int .i64 (satV (satV a - satV b))) ∧ w.setCell c (.bool (h || satH a || satH b || satH (satV a - satV b))) = w' := by
 have ba := satV_bd a
 have bb := satV_bd b
 obtain ⟨x, hx⟩ : ∃ x, satV a = x := ⟨_, rfl⟩
 obtain ⟨y, hy⟩ : ∃ y, satV b = y := ⟨_, rfl⟩
 have c1 : (w.setCell c (.bool (h || satH a))).cell? c = some (.bool (h || satH a)) := World.cell?_setCell_same _ _ _ hc
 have c2 : ((w.setCell c (.bool (h || satH a))).setCell c (.bool (h || satH a || satH b))).cell? c = some (.bool (h || satH a || satH b)) := World.cell?_setCell_same _ _ _ c1
 have f1 : ∀ v, (w.setCell c v).frozen? c = false := fun v => by simp [hf]
 go_enter Tryz.func73, Tryz.ntmps73
 go_wp2_with fail
 refine (sat_any c h a _ hc hf).mono ?_; rintro e w' ⟨rfl, rfl⟩
 go_wp2_with fail
 refine (sat_any c _ b _ c1 (f1 _)).mono ?_; rintro e w' ⟨rfl, rfl⟩
 go_wp2_with fail
 obtain ⟨z, hz⟩ : ∃ z, satV (x - y) = z := ⟨_, rfl⟩
 refine (sat_any c _ (x - y) _ c2 (by simp [hf])).mono ?_; rintro e w' ⟨rfl, rfl⟩
 go_wp2_with fail
 go_ret
 rw [hx, hy, hz]
 exact ⟨rfl, by simp only [setCell_setCell]⟩
end Go.Proofs.YtgfklheepkgedaaGreat
namespace Go.Proofs.YtgfklheepkgedaaGreat
open Go.RowKit
set_option maxRecDepth 100000
theorem hi_neg (A : Int) : decide (hi64 A < 0) = decide (A < 0) := by
 rw [Bool.eq_iff_iff]; simp; unfold hi64; omega
theorem rsh_neg (A : Int) (k : Nat) (h : ¬ r64F (rsh A k) = true) : decide (A < 0) = decide (rsh A k < 0) := by
 have hp : (0 : Int) < 2 ^ k := Int.pow_pos (by decide)
 have h0 : rsh A k ≠ 0 := by intro e; rw [e] at h; exact h (by decide)
 have := rdiv_sign A (2 ^ k) h0
 rw [Bool.eq_iff_iff]; simp only [decide_eq_true_eq]
 unfold rsh at *
 rw [this]; simp [hp]
theorem fround_walk (c : Addr) (h : Bool) (x y s v : Int) (ok : Bool) (V : Int) (H : Bool) (w : World) (hc : w.cell? c = some (.bool h)) (hf : w.frozen? c = false) (s0 : 0 ≤ s) (s1 : s ≤ 120)
  (hr : ∀ w, Calls Tryz.prog 80 #[.agg #[.int .i64 x, .int .u64 y], .int .i64 s] w fun e w' => e = .returned (.tuple #[.int .i64 v, .bool ok]) ∧ Below w.heap.size w w')
  (he : ∀ w, w.cell? c = some (.bool h) → w.frozen? c = false → Calls Tryz.prog 104 #[.pointer (some c), .int .i64 v, .bool ok, .bool (decide (x < 0))] w fun e w' => e = .returned (.int .i64 V) ∧ w.setCell c (.bool H) = w') :
  Calls Tryz.prog 82 #[.pointer (some c), .agg #[.int .i64 x, .int .u64 y], .int .i64 s] w fun e w' => e = .returned (.int .i64 V) ∧ Upd c H w w' := by
 have c1 : ¬ s < 0 := by omega
 have c2 : ¬ 120 < s := by omega
 have hcb := World.block_lt_of_cell? w c hc
 have HR := Lib.hid hr
 have HE := Lib.hid he
 clear hr he
 go_enter Tryz.func82, Tryz.ntmps82
 go_wp2_with fail
 refine (HR.out _).mono ?_; rintro e w1 ⟨rfl, hb1⟩
 have hb1z0 : w.heap.size < w1.heap.size := by have := hb1.size; (try simp at this); omega
 have hb1c0_0 := hb1.cell (p := ⟨w.heap.size, 0, none⟩) (by (try simp); (try omega))
 have hb1f0_0 := hb1.frozen (p := ⟨w.heap.size, 0, none⟩) (by (try simp); (try omega))
 simp [go_sem, *] at hb1c0_0 hb1f0_0
 have hb1c0_1 := hb1.cell (p := ⟨w.heap.size, 1, none⟩) (by (try simp); (try omega))
 have hb1f0_1 := hb1.frozen (p := ⟨w.heap.size, 1, none⟩) (by (try simp); (try omega))
 simp [go_sem, *] at hb1c0_1 hb1f0_1
 have k1 : w1.cell? c = some (.bool h) := (hb1.cell (by simp; omega)).trans (by simp [World.cell?_alloc_lt, hcb, hc])
 have k2 : w1.frozen? c = false := (hb1.frozen (by simp; omega)).trans (by rw [frozen?_alloc_cells]; exact hf)
 go_wp2_with fail
 refine (HE.out _ k1 k2).mono ?_; rintro e w2 ⟨rfl, rfl⟩
 go_wp2_with fail
 go_ret
 refine ⟨rfl, ?_⟩
 have hb : Below w.heap.size w w1 := by (repeat (first | with_reducible exact Below.refl _ _ | with_reducible assumption | with_reducible apply Below.drew | (with_reducible refine below_drewN ?_ _) | (with_reducible refine Below.alloc ?_ (by (try simp) <;> omega) _) | (with_reducible refine Below.setCell ?_ (by (try simp) <;> omega) _) | (with_reducible refine Below.trans ?_ (Below.mono (by assumption) (by (try simp) <;> omega)))))
 exact Upd.after hb (Upd.set c H w1)
theorem fround_any (c : Addr) (h : Bool) (A s : Int) (w : World) (hc : w.cell? c = some (.bool h)) (hf : w.frozen? c = false) (s0 : 0 ≤ s) (s1 : s ≤ 120)
  (a1 : -170141183460469231731687303715884105728 ≤ A) (a2 : A < 170141183460469231731687303715884105728) :
  Calls Tryz.prog 82 #[.pointer (some c), .agg #[.int .i64 (hi64 A), .int .u64 (lo64 A)], .int .i64 s] w fun e w' =>
   e = .returned (.int .i64 (satV (rsh A s.toNat))) ∧ Upd c (h || satH (rsh A s.toNat)) w w' :=
 fround_walk c h _ _ s _ _ _ _ w hc hf s0 s1 (fun w => round_any A s w s0 (by omega) a1 a2)
  (fun w k1 k2 => end_any c h (rsh A s.toNat) _ w k1 k2 (fun hn => by rw [hi_neg]; exact rsh_neg A _ hn))
theorem fround_bad (c : Addr) (h : Bool) (x y s : Int) (w : World) (hc : w.cell? c = some (.bool h)) (hf : w.frozen? c = false) (s0 : s < 0 ∨ 120 < s) :
  Calls Tryz.prog 82 #[.pointer (some c), .agg #[.int .i64 x, .int .u64 y], .int .i64 s] w fun e w' => e = .returned (.int .i64 0) ∧ Upd c true w w' := by
 have hcb := World.block_lt_of_cell? w c hc
 have hcn : w.heap.size ≠ c.block := by omega
 have k1 : ∀ o, (w.alloc o).cell? c = some (.bool h) := fun o => by simp [World.cell?_alloc_lt, hcb, hc]
 have k2 : ∀ cs t, (w.alloc (.cells cs t)).frozen? c = false := fun cs t => by rw [frozen?_alloc_cells]; exact hf
 by_cases h1 : s < 0
 ·go_enter Tryz.func82, Tryz.ntmps82
  go_wp2_with fail
  go_ret
  refine ⟨rfl, ?_⟩
  exact Upd.after (by (repeat (first | with_reducible exact Below.refl _ _ | with_reducible assumption | with_reducible apply Below.drew | (with_reducible refine below_drewN ?_ _) | (with_reducible refine Below.alloc ?_ (by (try simp) <;> omega) _) | (with_reducible refine Below.setCell ?_ (by (try simp) <;> omega) _) | (with_reducible refine Below.trans ?_ (Below.mono (by assumption) (by (try simp) <;> omega)))))) (Upd.set c true _)
 ·have h2 : 120 < s := by omega
  go_enter Tryz.func82, Tryz.ntmps82
  go_wp2_with fail
  go_ret
  refine ⟨rfl, ?_⟩
  exact Upd.after (by (repeat (first | with_reducible exact Below.refl _ _ | with_reducible assumption | with_reducible apply Below.drew | (with_reducible refine below_drewN ?_ _) | (with_reducible refine Below.alloc ?_ (by (try simp) <;> omega) _) | (with_reducible refine Below.setCell ?_ (by (try simp) <;> omega) _) | (with_reducible refine Below.trans ?_ (Below.mono (by assumption) (by (try simp) <;> omega)))))) (Upd.set c true _)
end Go.Proofs.YtgfklheepkgedaaGreat
/- Contracts of package fx (3): Mul, by, Div, MulDiv. -/
namespace Go.Proofs.YtgfklheepkgedaaGreat
open Go.RowKit
set_option maxRecDepth 100000
theorem fmul_walk (c : Addr) (h : Bool) (a b s x y A V : Int) (H : Bool) (w : World) (hc : w.cell? c = some (.bool h)) (hf : w.frozen? c = false)
  (hx : satV a = x) (hy : satV b = y)
  (hm : ∀ w, Calls Tryz.prog 78 #[.int .i64 x, .int .i64 y] w fun e w' => e = .returned (.agg #[.int .i64 (hi64 A), .int .u64 (lo64 A)]) ∧ Below w.heap.size w w')
  (hr : ∀ w, w.cell? c = some (.bool (h || satH a || satH b)) → w.frozen? c = false → Calls Tryz.prog 82 #[.pointer (some c), .agg #[.int .i64 (hi64 A), .int .u64 (lo64 A)], .int .i64 s] w fun e w' =>
   e = .returned (.int .i64 V) ∧ Upd c H w w') :
  Calls Tryz.prog 43 #[.pointer (some c), .int .i64 a, .int .i64 b, .int .i64 s] w fun e w' => e = .returned (.int .i64 V) ∧ Upd c H w w' := by
 have hcb := World.block_lt_of_cell? w c hc
 have c1 : (w.setCell c (.bool (h || satH a))).cell? c = some (.bool (h || satH a)) := World.cell?_setCell_same _ _ _ hc
 have c2 : ((w.setCell c (.bool (h || satH a))).setCell c (.bool (h || satH a || satH b))).cell? c = some (.bool (h || satH a || satH b)) := World.cell?_setCell_same _ _ _ c1
 have HM := Lib.hid hm
 have HR := Lib.hid hr
 have C2 := Lib.hid c2
 clear hm hr c2
 go_enter Tryz.func43, Tryz.ntmps43
 go_wp2_with fail
 refine (sat_any c h a _ hc hf).mono ?_; rintro e w' ⟨rfl, rfl⟩
 go_wp2_with fail
 refine (sat_any c _ b _ c1 (by simp [hf])).mono ?_; rintro e w' ⟨rfl, rfl⟩
 have HW := Lib.hid (Upd.trans (Upd.set c (h || satH a) w) (Upd.set c (h || satH a || satH b) _))
 have F2 : ((w.setCell c (.bool (h || satH a))).setCell c (.bool (h || satH a || satH b))).frozen? c = false := by simp [hf]
 have Z2 := Upd.size HW.out
 obtain ⟨w2, hw2⟩ : ∃ w2, (w.setCell c (.bool (h || satH a))).setCell c (.bool (h || satH a || satH b)) = w2 := ⟨_, rfl⟩
 rw [hw2] at HW C2 F2 Z2 ⊢
 clear hw2 c1 hc hf
 go_wp2_with fail
 refine (HM.out _).mono ?_; rintro e w3 ⟨rfl, hb3⟩
 have k1 : w3.cell? c = some (.bool (h || satH a || satH b)) := (hb3.cell (by omega)).trans C2.out
 have k2 : w3.frozen? c = false := (hb3.frozen (by omega)).trans F2
 have hz := hb3.size
 have k3 : ∀ o, (w3.alloc o).cell? c = some (.bool (h || satH a || satH b)) := fun o => by rw [World.cell?_alloc_lt _ _ _ (by omega)]; exact k1
 have k4 : ∀ cs t, (w3.alloc (.cells cs t)).frozen? c = false := fun cs t => by rw [frozen?_alloc_cells]; exact k2
 go_wp2_with fail
 refine (HR.out _ (k3 _) (k4 _ _)).mono ?_; rintro e w4 ⟨rfl, hu4⟩
 go_wp2_with fail
 go_ret
 refine ⟨rfl, ?_⟩
 exact HW.out.trans (Upd.after hb3 (Upd.after (by (repeat (first | with_reducible exact Below.refl _ _ | with_reducible apply Below.drew | (with_reducible refine below_drewN ?_ _) | (with_reducible refine Below.alloc ?_ (by (try simp) <;> omega) _) | (with_reducible refine Below.setCell ?_ (by (try simp) <;> omega) _)))) hu4))
theorem fmul_any (c : Addr) (h : Bool) (a b s : Int) (w : World) (hc : w.cell? c = some (.bool h)) (hf : w.frozen? c = false) :
  Calls Tryz.prog 43 #[.pointer (some c), .int .i64 a, .int .i64 b, .int .i64 s] w fun e w' => e = .returned (.int .i64 (mulV a b s)) ∧ Upd c (h || mulH a b s) w w' := by
 have ha := satV_bd a
 have hb := satV_bd b
 have hp := prod_bd a b
 by_cases hs : s < 0 ∨ 120 < s
 ·have e1 : mulV a b s = 0 := by simp [mulV, hs]
  have e2 : (h || mulH a b s) = true := by simp [mulH, hs]
  rw [e1, e2]
  exact fmul_walk c h a b s _ _ _ _ _ w hc hf rfl rfl (fun w => mul_any _ _ _ w (by omega) (by omega) (by omega) (by omega) rfl (by omega) (by omega))
   (fun w k1 k2 => fround_bad c _ _ _ s w k1 k2 hs)
 ·have e1 : mulV a b s = satV (rsh (satV a * satV b) s.toNat) := by simp only [mulV, if_neg hs]
  have e2 : (h || mulH a b s) = ((h || satH a || satH b) || satH (rsh (satV a * satV b) s.toNat)) := by simp [mulH, hs, Bool.or_assoc]
  rw [e1, e2]
  exact fmul_walk c h a b s _ _ _ _ _ w hc hf rfl rfl (fun w => mul_any _ _ _ w (by omega) (by omega) (by omega) (by omega) rfl (by omega) (by omega))
   (fun w k1 k2 => fround_any c _ _ s w k1 k2 (by omega) (by omega) (by omega) (by omega))
theorem rdiv_neg (A d : Int) (hd : d ≠ 0) (h : ¬ r64F (rdiv A d) = true) : (!decide (A < 0) == decide (d < 0)) = decide (rdiv A d < 0) := by
 have h0 : rdiv A d ≠ 0 := by intro e; rw [e] at h; exact h (by decide)
 have := rdiv_sign A d h0
 have e : decide (rdiv A d < 0) = decide (¬ ((0 ≤ A) = (0 < d))) := by rw [Bool.eq_iff_iff]; simp only [decide_eq_true_eq]; exact this
 rw [e]
 by_cases h1 : A < 0 <;> by_cases h2 : d < 0
 ·simp [h1, h2, show ¬ 0 ≤ A by omega, show ¬ 0 < d by omega]
 ·simp [h1, h2, show ¬ 0 ≤ A by omega, show 0 < d by omega]
 ·simp [h1, h2, show 0 ≤ A by omega, show ¬ 0 < d by omega]
 ·simp [h1, h2, show 0 ≤ A by omega, show 0 < d by omega]
theorem by_any (c : Addr) (h : Bool) (A d : Int) (w : World) (hc : w.cell? c = some (.bool h)) (hf : w.frozen? c = false)
  (d1 : -9223372036854775808 ≤ d) (d2 : d < 9223372036854775808) (a1 : -170141183460469231731687303715884105728 ≤ A) (a2 : A < 170141183460469231731687303715884105728) :
  Calls Tryz.prog 87 #[.pointer (some c), .agg #[.int .i64 (hi64 A), .int .u64 (lo64 A)], .int .i64 d] w fun e w' =>
   e = .returned (.int .i64 (byV A d)) ∧ Upd c (h || byH A d) w w' := by
 have hcb := World.block_lt_of_cell? w c hc
 have hcn : ∀ o, c ≠ ⟨w.heap.size, o, none⟩ := fun o e => by rw [e] at hcb; simp at hcb
 have k1 : ∀ o, (w.alloc o).cell? c = some (.bool h) := fun o => by simp [World.cell?_alloc_lt, hcb, hc]
 have k2 : ∀ cs t, (w.alloc (.cells cs t)).frozen? c = false := fun cs t => by rw [frozen?_alloc_cells]; exact hf
 by_cases hd : d = 0
 ·subst hd
  have e2 : (h || byH A 0) = true := by simp [byH]
  rw [e2]
  by_cases hA : A = 0
  ·subst hA
   have e1 : byV 0 0 = 0 := by decide
   have g1 : hi64 0 = 0 := by decide
   have g2 : lo64 0 = 0 := by decide
   rw [e1, g1, g2]
   clear e1 g1 g2 a1 a2 d1 d2
   go_enter Tryz.func87, Tryz.ntmps87
   go_wp2_with fail
   go_ret
   exact ⟨rfl, Upd.after (by (repeat (first | with_reducible exact Below.refl _ _ | with_reducible assumption | with_reducible apply Below.drew | (with_reducible refine below_drewN ?_ _) | (with_reducible refine Below.alloc ?_ (by (try simp) <;> omega) _) | (with_reducible refine Below.setCell ?_ (by (try simp) <;> omega) _) | (with_reducible refine Below.trans ?_ (Below.mono (by assumption) (by (try simp) <;> omega)))))) (Upd.set c true _)⟩
  ·have e1 : byV A 0 = signV (decide (hi64 A < 0)) := by
    rw [hi_neg]; by_cases h0 : A < 0 <;> simp [byV, hA, h0, signV]
   have g : hi64 A = 0 → lo64 A = 0 → False := by unfold hi64 lo64; omega
   rw [e1]
   obtain ⟨x, hx⟩ : ∃ x, hi64 A = x := ⟨_, rfl⟩
   obtain ⟨y, hy⟩ : ∃ y, lo64 A = y := ⟨_, rfl⟩
   rw [hx, hy] at g
   rw [hx, hy]
   clear e1 a1 a2 d1 d2 hx hy hA e2
   by_cases hx0 : x = 0
   ·subst hx0
    have hy0 : (y == 0) = false := by rw [Bool.eq_false_iff]; intro hh; simp at hh; exact g rfl hh
    clear g
    rw [show decide ((0 : Int) < 0) = false from rfl]
    go_enter Tryz.func87, Tryz.ntmps87
    go_wp2_with fail
    refine (sign_any _ _).mono ?_; rintro e w' ⟨rfl, rfl⟩
    go_wp2_with fail
    go_ret
    exact ⟨rfl, Upd.after (by (repeat (first | with_reducible exact Below.refl _ _ | with_reducible assumption | with_reducible apply Below.drew | (with_reducible refine below_drewN ?_ _) | (with_reducible refine Below.alloc ?_ (by (try simp) <;> omega) _) | (with_reducible refine Below.setCell ?_ (by (try simp) <;> omega) _) | (with_reducible refine Below.trans ?_ (Below.mono (by assumption) (by (try simp) <;> omega)))))) (Upd.set c true _)⟩
   ·have hx1 : (x == 0) = false := by simpa using hx0
    clear g
    go_enter Tryz.func87, Tryz.ntmps87
    go_wp2_with fail
    refine (sign_any _ _).mono ?_; rintro e w' ⟨rfl, rfl⟩
    go_wp2_with fail
    go_ret
    exact ⟨rfl, Upd.after (by (repeat (first | with_reducible exact Below.refl _ _ | with_reducible assumption | with_reducible apply Below.drew | (with_reducible refine below_drewN ?_ _) | (with_reducible refine Below.alloc ?_ (by (try simp) <;> omega) _) | (with_reducible refine Below.setCell ?_ (by (try simp) <;> omega) _) | (with_reducible refine Below.trans ?_ (Below.mono (by assumption) (by (try simp) <;> omega)))))) (Upd.set c true _)⟩
 ·have e1 : byV A d = satV (rdiv A d) := by simp [byV, hd]
  have e2 : (h || byH A d) = (h || satH (rdiv A d)) := by simp [byH, hd]
  rw [e1, e2]
  have hd0 : (d == 0) = false := by simpa using hd
  have H1 := Lib.hid (fun w => wdiv_any A d w hd d1 d2 a1 a2)
  have H2 := Lib.hid (fun w k1 k2 => end_any c h (rdiv A d) (!decide (hi64 A < 0) == decide (d < 0)) w k1 k2 (fun hn => by rw [hi_neg]; exact rdiv_neg A d hd hn))
  obtain ⟨V, hV⟩ : ∃ V, satV (rdiv A d) = V := ⟨_, rfl⟩
  obtain ⟨H, hH⟩ : ∃ H, (h || satH (rdiv A d)) = H := ⟨_, rfl⟩
  obtain ⟨v, hv⟩ : ∃ v, r64V (rdiv A d) = v := ⟨_, rfl⟩
  obtain ⟨o, ho⟩ : ∃ o, r64F (rdiv A d) = o := ⟨_, rfl⟩
  obtain ⟨x, hx⟩ : ∃ x, hi64 A = x := ⟨_, rfl⟩
  obtain ⟨y, hy⟩ : ∃ y, lo64 A = y := ⟨_, rfl⟩
  rw [hV, hH, hx, hv, ho] at H2
  rw [hv, ho, hx, hy] at H1
  rw [hV, hH, hx, hy]
  clear hV hH hx hy hv ho a1 a2 d1 d2 e1 e2 k1 k2 hd
  go_enter Tryz.func87, Tryz.ntmps87
  go_wp2_with fail
  refine (H1.out _).mono ?_; rintro e w1 ⟨rfl, hb1⟩
  have hb1z0 : w.heap.size < w1.heap.size := by have := hb1.size; (try simp at this); omega
  have hb1c0_0 := hb1.cell (p := ⟨w.heap.size, 0, none⟩) (by (try simp); (try omega))
  have hb1f0_0 := hb1.frozen (p := ⟨w.heap.size, 0, none⟩) (by (try simp); (try omega))
  simp [go_sem, *] at hb1c0_0 hb1f0_0
  have hb1c0_1 := hb1.cell (p := ⟨w.heap.size, 1, none⟩) (by (try simp); (try omega))
  have hb1f0_1 := hb1.frozen (p := ⟨w.heap.size, 1, none⟩) (by (try simp); (try omega))
  simp [go_sem, *] at hb1c0_1 hb1f0_1
  have k1 : w1.cell? c = some (.bool h) := (hb1.cell (by simp; omega)).trans (by simp [World.cell?_alloc_lt, hcb, hc])
  have k2 : w1.frozen? c = false := (hb1.frozen (by simp; omega)).trans (by rw [frozen?_alloc_cells]; exact hf)
  go_wp2_with fail
  refine (H2.out _ k1 k2).mono ?_; rintro e w2 ⟨rfl, rfl⟩
  go_wp2_with fail
  go_ret
  refine ⟨rfl, ?_⟩
  have hb : Below w.heap.size w w1 := by (repeat (first | with_reducible exact Below.refl _ _ | with_reducible assumption | with_reducible apply Below.drew | (with_reducible refine below_drewN ?_ _) | (with_reducible refine Below.alloc ?_ (by (try simp) <;> omega) _) | (with_reducible refine Below.setCell ?_ (by (try simp) <;> omega) _) | (with_reducible refine Below.trans ?_ (Below.mono (by assumption) (by (try simp) <;> omega)))))
  exact Upd.after hb (Upd.set c H w1)
end Go.Proofs.YtgfklheepkgedaaGreat
/- Contracts of package fx (4): Div, MulDiv. -/
namespace Go.Proofs.YtgfklheepkgedaaGreat
open Go.RowKit
set_option maxRecDepth 100000
theorem fdiv_walk (c : Addr) (h : Bool) (a b s x y A V : Int) (H : Bool) (w : World) (hc : w.cell? c = some (.bool h)) (hf : w.frozen? c = false) (s0 : 0 ≤ s) (s1 : s ≤ 66)
  (hx : satV a = x) (hy : satV b = y)
  (hm : ∀ w, Calls Tryz.prog 86 #[.int .i64 x, .int .i64 s] w fun e w' => e = .returned (.tuple #[.agg #[.int .i64 (hi64 A), .int .u64 (lo64 A)], .bool true]) ∧ Below w.heap.size w w')
  (hr : ∀ w, w.cell? c = some (.bool (h || satH a || satH b)) → w.frozen? c = false → Calls Tryz.prog 87 #[.pointer (some c), .agg #[.int .i64 (hi64 A), .int .u64 (lo64 A)], .int .i64 y] w fun e w' =>
   e = .returned (.int .i64 V) ∧ Upd c H w w') :
  Calls Tryz.prog 49 #[.pointer (some c), .int .i64 a, .int .i64 b, .int .i64 s] w fun e w' => e = .returned (.int .i64 V) ∧ Upd c H w w' := by
 have hcb := World.block_lt_of_cell? w c hc
 have n1 : ¬ s < 0 := by omega
 have n2 : ¬ 66 < s := by omega
 have c1 : (w.setCell c (.bool (h || satH a))).cell? c = some (.bool (h || satH a)) := World.cell?_setCell_same _ _ _ hc
 have c2 : ((w.setCell c (.bool (h || satH a))).setCell c (.bool (h || satH a || satH b))).cell? c = some (.bool (h || satH a || satH b)) := World.cell?_setCell_same _ _ _ c1
 have HM := Lib.hid hm
 have HR := Lib.hid hr
 have C2 := Lib.hid c2
 clear hm hr c2
 go_enter Tryz.func49, Tryz.ntmps49
 go_wp2_with fail
 refine (sat_any c h a _ hc hf).mono ?_; rintro e w' ⟨rfl, rfl⟩
 go_wp2_with fail
 refine (sat_any c _ b _ c1 (by simp [hf])).mono ?_; rintro e w' ⟨rfl, rfl⟩
 have HW := Lib.hid (Upd.trans (Upd.set c (h || satH a) w) (Upd.set c (h || satH a || satH b) _))
 have F2 : ((w.setCell c (.bool (h || satH a))).setCell c (.bool (h || satH a || satH b))).frozen? c = false := by simp [hf]
 have Z2 := Upd.size HW.out
 obtain ⟨w2, hw2⟩ : ∃ w2, (w.setCell c (.bool (h || satH a))).setCell c (.bool (h || satH a || satH b)) = w2 := ⟨_, rfl⟩
 rw [hw2] at HW C2 F2 Z2 ⊢
 clear hw2 c1 hc hf
 go_wp2_with fail
 refine (HM.out _).mono ?_; rintro e w3 ⟨rfl, hb3⟩
 have k1 : w3.cell? c = some (.bool (h || satH a || satH b)) := (hb3.cell (by omega)).trans C2.out
 have k2 : w3.frozen? c = false := (hb3.frozen (by omega)).trans F2
 have hz := hb3.size
 have k3 : ∀ o, (w3.alloc o).cell? c = some (.bool (h || satH a || satH b)) := fun o => by rw [World.cell?_alloc_lt _ _ _ (by omega)]; exact k1
 have k4 : ∀ cs t, (w3.alloc (.cells cs t)).frozen? c = false := fun cs t => by rw [frozen?_alloc_cells]; exact k2
 go_wp2_with fail
 refine (HR.out _ (k3 _) (k4 _ _)).mono ?_; rintro e w4 ⟨rfl, hu4⟩
 go_wp2_with fail
 go_ret
 refine ⟨rfl, ?_⟩
 exact HW.out.trans (Upd.after hb3 (Upd.after (by (repeat (first | with_reducible exact Below.refl _ _ | with_reducible apply Below.drew | (with_reducible refine below_drewN ?_ _) | (with_reducible refine Below.alloc ?_ (by (try simp) <;> omega) _) | (with_reducible refine Below.setCell ?_ (by (try simp) <;> omega) _)))) hu4))
theorem fdiv_bad (c : Addr) (h : Bool) (a b s : Int) (w : World) (hc : w.cell? c = some (.bool h)) (hf : w.frozen? c = false) (hs : s < 0 ∨ 66 < s) :
  Calls Tryz.prog 49 #[.pointer (some c), .int .i64 a, .int .i64 b, .int .i64 s] w fun e w' => e = .returned (.int .i64 0) ∧ Upd c true w w' := by
 have c1 : (w.setCell c (.bool (h || satH a))).cell? c = some (.bool (h || satH a)) := World.cell?_setCell_same _ _ _ hc
 have c2 : ((w.setCell c (.bool (h || satH a))).setCell c (.bool (h || satH a || satH b))).cell? c = some (.bool (h || satH a || satH b)) := World.cell?_setCell_same _ _ _ c1
 by_cases h1 : s < 0
 ·clear hs
  go_enter Tryz.func49, Tryz.ntmps49
  go_wp2_with fail
  refine (sat_any c h a _ hc hf).mono ?_; rintro e w' ⟨rfl, rfl⟩
  go_wp2_with fail
  refine (sat_any c _ b _ c1 (by simp [hf])).mono ?_; rintro e w' ⟨rfl, rfl⟩
  go_wp2_with fail
  go_ret
  exact ⟨rfl, Upd.trans (Upd.trans (Upd.set c _ w) (Upd.set c _ _)) (Upd.set c true _)⟩
 ·have h2 : 66 < s := by omega
  clear hs
  go_enter Tryz.func49, Tryz.ntmps49
  go_wp2_with fail
  refine (sat_any c h a _ hc hf).mono ?_; rintro e w' ⟨rfl, rfl⟩
  go_wp2_with fail
  refine (sat_any c _ b _ c1 (by simp [hf])).mono ?_; rintro e w' ⟨rfl, rfl⟩
  go_wp2_with fail
  go_ret
  exact ⟨rfl, Upd.trans (Upd.trans (Upd.set c _ w) (Upd.set c _ _)) (Upd.set c true _)⟩
theorem fdiv_any (c : Addr) (h : Bool) (a b s : Int) (w : World) (hc : w.cell? c = some (.bool h)) (hf : w.frozen? c = false) :
  Calls Tryz.prog 49 #[.pointer (some c), .int .i64 a, .int .i64 b, .int .i64 s] w fun e w' => e = .returned (.int .i64 (divV a b s)) ∧ Upd c (h || divH a b s) w w' := by
 have ha := satV_bd a
 have hb := satV_bd b
 by_cases hs : s < 0 ∨ 66 < s
 ·have e1 : divV a b s = 0 := by simp [divV, hs]
  have e2 : (h || divH a b s) = true := by simp [divH, hs]
  rw [e1, e2]
  exact fdiv_bad c h a b s w hc hf hs
 ·have hp := shift_bd a s (by omega) (by omega)
  have e1 : divV a b s = byV (satV a * 2 ^ s.toNat) (satV b) := by simp only [divV, if_neg hs]
  have e2 : (h || divH a b s) = ((h || satH a || satH b) || byH (satV a * 2 ^ s.toNat) (satV b)) := by simp [divH, hs, Bool.or_assoc]
  rw [e1, e2]
  exact fdiv_walk c h a b s _ _ _ _ _ w hc hf (by omega) (by omega) rfl rfl (fun w => shift_any _ _ _ w (by omega) (by omega) (by omega) (by omega) rfl)
   (fun w k1 k2 => by_any c _ _ _ w k1 k2 (by omega) (by omega) (by omega) (by omega))

end Go.Proofs.YtgfklheepkgedaaGreat
/- A region that draws its order, whose last operation (number L, a store that waits for all others) may spoil what the loads read: the condition S is asked behind every operation but that one. -/
namespace Go.Proofs.YtgfklheepkgedaaGreat
open Go
section
variable {P : Program} {ops : Array Oper} {Q : Exit → Act → World → Prop} {md : Region.Mode} {S : World → Prop} {L : Nat}

/-- Whatever order is picked; S holds behind every operation that is carried out, till number L has come up. -/
def wpAnyM (P : Program) (md : Region.Mode) (ops : Array Oper) (Q : Exit → Act → World → Prop) (S : World → Prop) (L : Nat) : Nat → Array Bool → Act → World → Prop
 | 0, listed, a, w => Region.ready md ops listed = [] ∧ Q .normal a w
 | fuel + 1, listed, a, w =>
  (Region.ready md ops listed = [] → Q .normal a w) ∧
  ∀ i ∈ Region.ready md ops listed, wpOp P ops Q i (fun a' w' => ((listed.setIfInBounds i true).getD L false = true ∨ S w') ∧ wpAnyM P md ops Q S L fuel (listed.setIfInBounds i true) a' w') a w

theorem wpAny_of_M : ∀ (fuel : Nat) (listed : Array Bool) (a : Act) (w : World), wpAnyM P md ops Q S L fuel listed a w → wpAny P md ops Q fuel listed a w
 | 0, _, _, _, h => h
 | fuel + 1, _, _, _, h => ⟨h.1, fun i hi => wpOp_mono (fun a' w' h' => wpAny_of_M fuel _ a' w' h'.2) (h.2 i hi)⟩

theorem getD_of_ready {i : Nat} {listed : Array Bool} (h0 : listed.getD i true = false) (h1 : listed.getD i false = true) : False := by
 rcases Nat.lt_or_ge i listed.size with h' | h'
 ·simp [h'] at h0 h1; rw [h0] at h1; cases h1
 ·simp [Array.getElem?_eq_none h'] at h1

theorem getD_set_ne' {listed : Array Bool} {i L : Nat} (b : Bool) (h : i ≠ L) : (listed.setIfInBounds i true).getD L b = listed.getD L b := getD_set_ne b h

/-- G: in the worlds in which number i is known to yield. -/
theorem wpAnyM_first {G : World → Prop} {i : Nat} {oi : Oper} {v : Value} (hi : ops[i]? = some oi) (hsel : ∀ (j : Nat) (o : Oper) cs b, ops[j]? = some o → o.op ≠ .select cs b)
  (hQ : ∀ c a w, Q (.panic c) (a.put oi.dst v) w → Q (.panic c) a w) (hiL : i ≠ L)
  (hG : (Region.waitsFor md ops L i = true ∧ ∀ w, S w → G w) ∨ ∀ w, G w) :
  ∀ (fuel : Nat) (listed : Array Bool) (a : Act) (w : World), (Region.waitsFor md ops L i = true → listed.getD L false = false) →
   (∀ j oj, ops[j]? = some oj → j ≠ i → listed.getD j true = false → (∀ e ∈ oj.after, Region.binds md e = true → e.on ≠ i) → oi.apart ops oj = true) →
   i ∈ Region.ready md ops listed → YieldsIf P ops G oi v a → G w → (listed.getD L false = true ∨ S w) →
   wpAnyM P md ops Q S L fuel (listed.setIfInBounds i true) (a.put oi.dst v) w → wpAnyM P md ops Q S L (fuel + 1) listed a w := by
 intro fuel
 induction fuel with
 | zero =>
  intro listed a w _ _ hr hy hGw hS H
  refine ⟨fun h => (by rw [h] at hr; cases hr), fun j hj => ?_⟩
  by_cases hji : j = i
  ·subst hji; exact hy.wpOp hi hGw ⟨hS.imp (fun h => by rw [getD_set_ne' _ hiL]; exact h) id, H⟩
  ·have := ready_mono hj hji
   rw [H.1] at this
   cases this
 | succ fuel ih =>
  intro listed a w hLw hfree hr hy hGw hS H
  refine ⟨fun h => (by rw [h] at hr; cases hr), fun j hj => ?_⟩
  by_cases hji : j = i
  ·subst hji; exact hy.wpOp hi hGw ⟨hS.imp (fun h => by rw [getD_set_ne' _ hiL]; exact h) id, H⟩
  ·have h1 := H.2 j (ready_mono hj hji)
   obtain ⟨hjun, oj, hoj, hall⟩ := mem_ready.1 hj
   have hiun := (mem_ready.1 hr).1
   have hnot : ∀ e ∈ oj.after, Region.binds md e = true → e.on ≠ i := fun e he hb heq => by
    have h2 := hall e he hb
    rw [heq] at h2
    exact getD_of_ready hiun h2
   have hjL : Region.waitsFor md ops L i = true → j ≠ L := fun hL e => by
    subst e
    obtain ⟨oL, hoL, e, he, hb, hon⟩ := Region.waitsFor_spec hL
    have : oL = oj := Option.some.inj (hoL.symm.trans hoj)
    subst this
    exact hnot e he hb hon
   have h2 := wpOp_putIf hoj (hfree j oj hoj hji hjun hnot) (fun cs b => hsel i oi cs b hi) (fun cs b => hsel j oj cs b hoj) hQ hy h1
   have hfree' : ∀ k ok, ops[k]? = some ok → k ≠ i → (listed.setIfInBounds j true).getD k true = false →
     (∀ e ∈ ok.after, Region.binds md e = true → e.on ≠ i) → oi.apart ops ok = true := fun k ok hk hki hun hno => by
    refine hfree k ok hk hki ?_ hno
    by_cases hjk : j = k
    ·subst hjk; exact hjun
    ·rw [getD_set_ne true hjk] at hun; exact hun
   refine wpOp_mono (fun a' w' h3 => ?_) h2
   have hS' : (listed.setIfInBounds j true).getD L false = true ∨ S w' := by
    refine h3.2.1.imp (fun h => ?_) id
    rw [Array.setIfInBounds_comm _ _ (Ne.symm hji), getD_set_ne' _ hiL] at h
    exact h
   have hL' : Region.waitsFor md ops L i = true → (listed.setIfInBounds j true).getD L false = false := fun hL => by
    rw [getD_set_ne' _ (hjL hL)]; exact hLw hL
   have hG' : G w' := by
    rcases hG with ⟨hL, hSG⟩ | hG
    ·refine hSG w' (hS'.resolve_left fun h => ?_)
     rw [hL' hL] at h; cases h
    ·exact hG w'
   refine ⟨hS', ih (listed.setIfInBounds j true) a' w' hL' hfree' (ready_mono hr (Ne.symm hji)) h3.1 hG' hS' ?_⟩
   rw [Array.setIfInBounds_comm _ _ hji]
   exact h3.2.2

/-- Take number i first, number L waiting for it. -/
theorem wpAnyM_take (i : Nat) {oi : Oper} {v : Value} {fuel : Nat} {listed : Array Bool} {a : Act} {w : World} (hi' : ops.toList[i]? = some oi)
  (hk : (Region.noSelect ops && (Region.free md ops listed i && ((Region.ready md ops listed).contains i && (Region.waitsFor md ops L i && (!listed.getD L false && !(i == L)))))) = true)
  (hQ : ∀ c a w, Q (.panic c) (a.put oi.dst v) w → Q (.panic c) a w) (hy : YieldsIf P ops S oi v a) (hS : S w)
  (h : wpAnyM P md ops Q S L fuel (listed.setIfInBounds i true) (a.put oi.dst v) w) : wpAnyM P md ops Q S L (fuel + 1) listed a w := by
 have hi : ops[i]? = some oi := by rwa [Array.getElem?_toList] at hi'
 simp only [Bool.and_eq_true, Bool.not_eq_true'] at hk
 obtain ⟨k1, k2, k3, k4, k5, k6⟩ := hk
 exact wpAnyM_first hi (Region.noSelect_spec k1) hQ (by simpa using k6) (.inl ⟨k4, fun _ h => h⟩) fuel listed a w (fun _ => k5) (Region.free_spec hi k2) (by simpa using k3) hy hS (.inr hS) h

/-- Take number i first: it yields in whatever world. -/
theorem wpAnyM_takeW (i : Nat) {oi : Oper} {v : Value} {fuel : Nat} {listed : Array Bool} {a : Act} {w : World} (hi' : ops.toList[i]? = some oi)
  (hk : (Region.noSelect ops && (Region.free md ops listed i && ((Region.ready md ops listed).contains i && (!Region.waitsFor md ops L i && !(i == L))))) = true)
  (hQ : ∀ c a w, Q (.panic c) (a.put oi.dst v) w → Q (.panic c) a w) (hy : YieldsIf P ops (fun _ => True) oi v a) (hS : listed.getD L false = true ∨ S w)
  (h : wpAnyM P md ops Q S L fuel (listed.setIfInBounds i true) (a.put oi.dst v) w) : wpAnyM P md ops Q S L (fuel + 1) listed a w := by
 have hi : ops[i]? = some oi := by rwa [Array.getElem?_toList] at hi'
 simp only [Bool.and_eq_true, Bool.not_eq_true'] at hk
 obtain ⟨k1, k2, k3, k4, k6⟩ := hk
 exact wpAnyM_first hi (Region.noSelect_spec k1) hQ (by simpa using k6) (.inr fun _ => trivial) fuel listed a w (fun h => by rw [k4] at h; cases h) (Region.free_spec hi k2) (by simpa using k3) hy trivial hS h

/-- Number i alone may come up. -/
theorem wpAnyM_one (i : Nat) {o : Oper} {fuel : Nat} {listed : Array Bool} {a : Act} {w : World} (ho' : ops.toList[i]? = some o) (hr : Region.ready md ops listed = [i])
  (h : ∀ K : Act → World → Prop, Shut (∀ a w, ((listed.setIfInBounds i true).getD L false = true ∨ S w) → (((listed.setIfInBounds i true).getD L false = true ∨ S w) → wpAnyM P md ops Q S L fuel (listed.setIfInBounds i true) a w) → K a w) →
   if Region.wanted o (yielded ops a.tmps) = true then Oper.wp P o a w K Q else K (a.put o.dst undef) w) :
  wpAnyM P md ops Q S L (fuel + 1) listed a w := by
 have ho : ops[i]? = some o := by rwa [Array.getElem?_toList] at ho'
 refine ⟨fun h0 => (by rw [hr] at h0; cases h0), fun j hj => ?_⟩
 rw [hr] at hj
 obtain rfl : j = i := by simpa using hj
 exact wpOp_step ho (fun K' hK => h K' (fun a w hS hW => hK a w ⟨hS, hW hS⟩))

/-- Number i alone may come up; S holds behind it. -/
theorem wpAnyM_oneS (i : Nat) {o : Oper} {fuel : Nat} {listed : Array Bool} {a : Act} {w : World} (ho' : ops.toList[i]? = some o) (hr : Region.ready md ops listed = [i])
  (h : ∀ K : Act → World → Prop, Shut (∀ a w, S w → (S w → wpAnyM P md ops Q S L fuel (listed.setIfInBounds i true) a w) → K a w) →
   if Region.wanted o (yielded ops a.tmps) = true then Oper.wp P o a w K Q else K (a.put o.dst undef) w) :
  wpAnyM P md ops Q S L (fuel + 1) listed a w :=
 wpAnyM_one i ho' hr fun K hK => h K fun a w hS hM => hK a w (.inr hS) fun _ => hM hS

/-- All have come up. -/
theorem wpAnyM_done {listed : Array Bool} {a : Act} {w : World} (hr : Region.ready md ops listed = []) (h : Q .normal a w) : ∀ fuel, wpAnyM P md ops Q S L fuel listed a w
 | 0 => ⟨hr, h⟩
 | _ + 1 => ⟨fun _ => h, by rw [hr]; simp⟩

/-- The beginning. -/
theorem wp_region_M (S : World → Prop) (L : Nat) {id : Nat} {a : Act} {w : World} (hm : P.follows .mixedOrders = true) (hS : S w.drew)
  (h : S w.drew → wpAnyM P .any ops Q S L ops.size (Array.replicate ops.size false) a w.drew) : (Code.region id ops true).wp P Q a w :=
 wp_region_any hm (wpAny_of_M _ _ _ _ (h hS))
end
theorem two_cells {w : World} {b : Nat} {u0 u1 : Value} (h0 : w.cell? ⟨b, 0, none⟩ = some u0) (h1 : w.cell? ⟨b, 1, none⟩ = some u1) (v0 v1 : Value) :
  ((w.setCell ⟨b, 0, none⟩ v0).setCell ⟨b, 1, none⟩ v1).cell? ⟨b, 0, none⟩ = some v0 ∧ ((w.setCell ⟨b, 0, none⟩ v0).setCell ⟨b, 1, none⟩ v1).cell? ⟨b, 1, none⟩ = some v1 := by
 have n : (⟨b, 0, none⟩ : Addr) ≠ ⟨b, 1, none⟩ := by intro e; simp at e
 have k1 : (w.setCell ⟨b, 0, none⟩ v0).cell? ⟨b, 1, none⟩ = some u1 := (World.cell?_setCell_other _ _ _ _ n).trans h1
 exact ⟨(World.cell?_setCell_other _ _ _ _ (Ne.symm n)).trans (World.cell?_setCell_same _ _ _ h0), World.cell?_setCell_same _ _ _ k1⟩
/-- wpAnyM_take, where the step's value comes out by the plain means. -/
theorem tk {P : Program} {ops : Array Oper} {Q : Exit → Act → World → Prop} {md : Region.Mode} {S : World → Prop} {L : Nat} (i : Nat) {oi : Oper} {v : Value} {fuel : Nat} {listed : Array Bool} {a : Act} {w : World}
  (h : wpAnyM P md ops Q S L fuel (listed.setIfInBounds i true) (a.put oi.dst v) w) (hi' : ops.toList[i]? = some oi := by rfl)
  (hk : (Region.noSelect ops && (Region.free md ops listed i && ((Region.ready md ops listed).contains i && (Region.waitsFor md ops L i && (!listed.getD L false && !(i == L)))))) = true := by kernel_rfl)
  (hQ : ∀ c a w, Q (.panic c) (a.put oi.dst v) w → Q (.panic c) a w := by exact fun _ _ _ h => h)
  (hy : YieldsIf P ops S oi v a := by (refine Or.inl ⟨by rfl, ?_⟩; intro wx hSw; (try dsimp only at hSw); go_simp; (try with_reducible rfl))) (hS : S w := by assumption) : wpAnyM P md ops Q S L (fuel + 1) listed a w :=
 wpAnyM_take i hi' hk hQ hy hS h
/-- wpAnyM_take, with the plain proofs left to auto parameters. -/
theorem tl {P : Program} {ops : Array Oper} {Q : Exit → Act → World → Prop} {md : Region.Mode} {S : World → Prop} {L : Nat} (i : Nat) {oi : Oper} {v : Value} {fuel : Nat} {listed : Array Bool} {a : Act} {w : World}
  (hy : ∀ w' : World, S w' → (execOp a.eval oi).run P w' = .ok (.value v) w')
  (h : wpAnyM P md ops Q S L fuel (listed.setIfInBounds i true) (a.put oi.dst v) w) (hi' : ops.toList[i]? = some oi := by rfl)
  (hk : (Region.noSelect ops && (Region.free md ops listed i && ((Region.ready md ops listed).contains i && (Region.waitsFor md ops L i && (!listed.getD L false && !(i == L)))))) = true := by kernel_rfl)
  (hQ : ∀ c a w, Q (.panic c) (a.put oi.dst v) w → Q (.panic c) a w := by exact fun _ _ _ h => h)
  (hg : Region.wanted oi (yielded ops a.tmps) = true := by rfl) (hS : S w := by assumption) : wpAnyM P md ops Q S L (fuel + 1) listed a w :=
 wpAnyM_take i hi' hk hQ (Or.inl ⟨hg, hy⟩) hS h
end Go.Proofs.YtgfklheepkgedaaGreat
/- Contract of fx.Dot. -/
namespace Go.Proofs.YtgfklheepkgedaaGreat
open Go.RowKit
set_option maxRecDepth 100000
theorem ne_of_cells {w : World} {c a : Addr} {h : Bool} {n : Int} (hc : w.cell? c = some (.bool h)) (ha : w.cell? a = some (.int .i64 n)) : c ≠ a := by
 intro e; rw [e, ha] at hc; cases hc
/-- What holds at the head of a round of Dot: the sum so far stands in the call's own cells. -/
structure DotR (c : Addr) (h : Bool) (A B : Nat → Int) (w : World) (k : Nat) (wr : World) : Prop where
 upd : Upd c (h || dotB A B k) w wr
 c0 : wr.cell? ⟨w.heap.size, 0, none⟩ = some (.int .i64 (hi64 (dotS A B k)))
 c1 : wr.cell? ⟨w.heap.size, 1, none⟩ = some (.int .u64 (lo64 (dotS A B k)))
 f0 : wr.frozen? ⟨w.heap.size, 0, none⟩ = false
 f1 : wr.frozen? ⟨w.heap.size, 1, none⟩ = false
 sz : w.heap.size < wr.heap.size
theorem keep2 {c : Addr} {h : Bool} {w w' : World} (u : Upd c h w w') {a1 a2 : Addr} {v1 v2 : Value} (h1 : w.cell? a1 = some v1) (h2 : w.cell? a2 = some v2)
  (n1 : c ≠ a1) (n2 : c ≠ a2) : w'.cell? a1 = some v1 ∧ w'.cell? a2 = some v2 :=
 ⟨(u.cell (World.block_lt_of_cell? w _ h1) n1).trans h1, (u.cell (World.block_lt_of_cell? w _ h2) n2).trans h2⟩
theorem keep4 {c : Addr} {h : Bool} {w w' : World} (u : Upd c h w w') {a1 a2 a3 a4 : Addr} {v1 v2 v3 v4 : Value} (h1 : w.cell? a1 = some v1) (h2 : w.cell? a2 = some v2) (h3 : w.cell? a3 = some v3) (h4 : w.cell? a4 = some v4)
  (n1 : c ≠ a1) (n2 : c ≠ a2) (n3 : c ≠ a3) (n4 : c ≠ a4) : w'.cell? a1 = some v1 ∧ w'.cell? a2 = some v2 ∧ w'.cell? a3 = some v3 ∧ w'.cell? a4 = some v4 :=
 ⟨(u.cell (World.block_lt_of_cell? w _ h1) n1).trans h1, (u.cell (World.block_lt_of_cell? w _ h2) n2).trans h2, (u.cell (World.block_lt_of_cell? w _ h3) n3).trans h3, (u.cell (World.block_lt_of_cell? w _ h4) n4).trans h4⟩
set_option maxHeartbeats 1000000 in
theorem dot_in (c : Addr) (h : Bool) (s : Int) (A B : Nat → Int) (pa oa ca pb ob cb n : Nat) (w : World) (hc : w.cell? c = some (.bool h)) (hf : w.frozen? c = false)
  (s0 : 0 ≤ s) (s1 : s ≤ 120) (hn : n ≤ 100)
  (hA : ∀ i, i < n → w.cell? ⟨pa, oa + i, none⟩ = some (.int .i64 (A i))) (hB : ∀ i, i < n → w.cell? ⟨pb, ob + i, none⟩ = some (.int .i64 (B i))) :
  Calls Tryz.prog 51 #[.pointer (some c), .int .i64 s, .slice (some ⟨pa, oa, none⟩) n ca, .slice (some ⟨pb, ob, none⟩) n cb] w fun e w' =>
   e = .returned (.int .i64 (satV (rsh (dotS A B n) s.toNat))) ∧ Upd c (h || dotB A B n || satH (rsh (dotS A B n) s.toNat)) w w' := by
 have hcb := World.block_lt_of_cell? w c hc
 have n1 : ¬ s < 0 := by omega
 have n2 : ¬ 120 < s := by omega
 have HA := Lib.hid hA
 have HB := Lib.hid hB
 have HC := Lib.hid hc
 have HF := Lib.hid hf
 clear hA hB hc hf
 go_enter Tryz.func51, Tryz.ntmps51
 go_wp2_with fail
 go_loopw [26] (fun i wr => ∃ k : Nat, k ≤ n ∧ i = .int .i64 k ∧ Hid (DotR c h A B w k wr)) (fun i _ => n - (intOf i).toNat)
 case atStart =>
  refine ⟨0, Nat.zero_le _, rfl, ⟨?_, by simp [dotS, hi64], by simp [dotS, lo64], by simp, by simp, by simp⟩⟩
  rw [show (h || dotB A B 0) = h from by simp [dotB]]
  exact Upd.then (Upd.refl HC.out) (by (repeat (first | with_reducible exact Below.refl _ _ | with_reducible apply Below.drew | (with_reducible refine below_drewN ?_ _) | (with_reducible refine Below.alloc ?_ (by (try simp) <;> omega) _) | (with_reducible refine Below.setCell ?_ (by (try simp) <;> omega) _))))
 case round =>
  obtain ⟨k, hk, rfl, R⟩ := hrel
  by_cases hlt : k < n
  ·have a0 := HA.out k hlt
   have b0 := HB.out k hlt
   have hsb := dotS_bd A B k
   have hpb := prod_bd (A k) (B k)
   have u := R.out.upd
   have ra : wr.cell? ⟨pa, oa + k, none⟩ = some (.int .i64 (A k)) := (u.cell (World.block_lt_of_cell? w _ a0) (ne_of_cells HC.out a0)).trans a0
   have rb : wr.cell? ⟨pb, ob + k, none⟩ = some (.int .i64 (B k)) := (u.cell (World.block_lt_of_cell? w _ b0) (ne_of_cells HC.out b0)).trans b0
   have rc : wr.cell? c = some (.bool (h || dotB A B k)) := u.cellc HC.out
   have rf : wr.frozen? c = false := (u.frozen hcb).trans HF.out
   have s0 := R.out.c0
   have s1 := R.out.c1
   have t0 := R.out.f0
   have t1 := R.out.f1
   have na := ne_of_cells rc ra
   have nb := ne_of_cells rc rb
   have n0 := ne_of_cells rc s0
   have sA := satV_bd (A k)
   have sB := satV_bd (B k)
   have g1 : (wr.drew.setCell c (.bool (h || dotB A B k || satH (A k)))).cell? c = some (.bool (h || dotB A B k || satH (A k))) := World.cell?_setCell_same _ _ _ rc
   have U2 : Upd c (h || dotB A B k || satH (A k) || satH (B k)) wr ((wr.drew.setCell c (.bool (h || dotB A B k || satH (A k)))).setCell c (.bool (h || dotB A B k || satH (A k) || satH (B k)))) :=
    Upd.trans (Upd.after (Below.drew (Below.refl _ _)) (Upd.set c _ wr.drew)) (Upd.set c _ _)
   have RSZ := R.out.sz
   have Z2 := U2.size
   have H2 := Lib.hid U2
   have G1 := Lib.hid g1
   have HU := Lib.hid u
   have HSB := Lib.hid hsb
   have HPB := Lib.hid hpb
   have SA := Lib.hid sA
   have SB := Lib.hid sB
   clear U2 g1 u hsb hpb sA sB Z2
   go_wp2_with fail
   have hcS : ∀ o, c ≠ ⟨w.heap.size, o, none⟩ := fun o e => by rw [e] at hcb; simp at hcb
   have z0 : wr.heap.size ≠ pa ∧ wr.heap.size ≠ pb := ⟨World.new_ne wr _ ra, World.new_ne wr _ rb⟩
   refine wp_region_M (fun w' => w'.cell? ⟨pa, oa + k, none⟩ = some (.int .i64 (A k)) ∧ w'.cell? ⟨pb, ob + k, none⟩ = some (.int .i64 (B k)) ∧ w'.cell? ⟨w.heap.size, 0, none⟩ = some (.int .i64 (hi64 (dotS A B k))) ∧ w'.cell? ⟨w.heap.size, 1, none⟩ = some (.int .u64 (lo64 (dotS A B k)))) 19 (by kernel_rfl) ?_ (fun hHeld => ?_)
   ·exact ⟨ra, rb, s0, s1⟩
   refine tk 0 ?_
   (try simp only [Act.put, nA, nB, nC])
   refine tk 1 ?_
   (try simp only [Act.put, nA, nB, nC])
   refine tk 2 ?_
   (try simp only [Act.put, nA, nB, nC])
   refine tk 3 ?_
   (try simp only [Act.put, nA, nB, nC])
   refine tk 4 ?_
   (try simp only [Act.put, nA, nB, nC])
   refine tk 5 ?_
   (try simp only [Act.put, nA, nB, nC])
   refine tk 7 ?_
   (try simp only [Act.put, nA, nB, nC])
   refine tk 8 ?_
   (try simp only [Act.put, nA, nB, nC])
   refine tk 9 ?_
   (try simp only [Act.put, nA, nB, nC])
   refine tk 10 ?_
   (try simp only [Act.put, nA, nB, nC])
   refine tk 11 ?_
   (try simp only [Act.put, nA, nB, nC])
   refine wpAnyM_oneS 6 rfl (by kernel_rfl) (fun K hK => ?_)
   go_simp
   (refine (sat_any c (h || dotB A B k) (A k) wr.drew rc rf).mono ?_); rintro e w' ⟨rfl, rfl⟩
   (try dsimp only)
   (try simp only [Act.put, nA, nB, nC])
   clear hHeld
   refine hK.out _ _ ?_ (fun hHeld => ?_)
   ·simp [go_sem, *]
   clear hK K
   (try simp only [Act.put, nA, nB, nC])
   refine wpAnyM_oneS 12 rfl (by kernel_rfl) (fun K hK => ?_)
   go_simp
   (refine (sat_any c (h || dotB A B k || satH (A k)) (B k) _ G1.out (by simp [rf])).mono ?_); rintro e w' ⟨rfl, rfl⟩
   (try dsimp only)
   (try simp only [Act.put, nA, nB, nC])
   clear hHeld
   refine hK.out _ _ ?_ (fun hHeld => ?_)
   ·simp [go_sem, *]
   clear hK K
   (try simp only [Act.put, nA, nB, nC])
   refine wpAnyM_oneS 13 rfl (by kernel_rfl) (fun K hK => ?_)
   go_simp
   (refine (mul_any _ _ _ _ (by have := SA.out; omega) (by have := SA.out; omega) (by have := SB.out; omega) (by have := SB.out; omega) rfl (by have := HPB.out; omega) (by have := HPB.out; omega)).mono ?_); rintro e w3 ⟨rfl, hb3⟩; have U3 : Upd c (h || dotB A B k || satH (A k) || satH (B k)) wr w3 := Upd.then H2.out hb3; have kp := keep4 U3 ra rb s0 s1 na nb n0 (hcS 1); have HU3 := Lib.hid U3; clear U3; have hz3 : w.heap.size < w3.heap.size := by have := HU3.out.size; omega
   (try dsimp only)
   (try simp only [Act.put, nA, nB, nC])
   clear hHeld
   refine hK.out _ _ ?_ (fun hHeld => ?_)
   ·exact kp
   clear hK K
   (try simp only [Act.put, nA, nB, nC])
   refine wpAnyM_oneS 14 rfl (by kernel_rfl) (fun K hK => ?_)
   go_simp
   clear hHeld
   refine hK.out _ _ ?_ (fun hHeld => ?_)
   ·obtain ⟨e1, e2, e3, e4⟩ := kp; simp [World.cell?_alloc_some, e1, e2, e3, e4]
   clear hK K
   (try simp only [Act.put, nA, nB, nC])
   refine wpAnyM_oneS 15 rfl (by kernel_rfl) (fun K hK => ?_)
   go_simp
   (refine (wadd2_any (dotS A B k) (satV (A k) * satV (B k)) (dotS A B (k + 1)) w3.heap.size 2 _ (by have := HSB.out; omega) (by have := HSB.out; omega) (by have := HPB.out; omega) (by have := HPB.out; omega) rfl (by have := HSB.out; have := HPB.out; simp only [dotS]; omega) (by have := HSB.out; have := HPB.out; simp only [dotS]; omega) (by simp) (by simp) (by simp) (by simp)).mono ?_); rintro e w4 ⟨rfl, hb4⟩; have U4 : Upd c (h || dotB A B k || satH (A k) || satH (B k)) wr w4 := Upd.then (Upd.alloc HU3.out _) hb4; have kp2 := keep4 U4 ra rb s0 s1 na nb n0 (hcS 1); have fz0 : w4.frozen? ⟨w.heap.size, 0, none⟩ = false := (U4.frozen RSZ).trans t0; have fz1 : w4.frozen? ⟨w.heap.size, 1, none⟩ = false := (U4.frozen RSZ).trans t1; have HU4 := Lib.hid U4; clear U4; obtain ⟨x0, x1, y0, y1⟩ := kp2
   (try dsimp only)
   (try simp only [Act.put, nA, nB, nC])
   clear hHeld
   refine hK.out _ _ ?_ (fun hHeld => ?_)
   ·exact ⟨x0, x1, y0, y1⟩
   clear hK K
   (try simp only [Act.put, nA, nB, nC])
   refine tk 16 ?_
   (try simp only [Act.put, nA, nB, nC])
   refine tk 17 ?_
   (try simp only [Act.put, nA, nB, nC])
   refine wpAnyM_takeW 18 (v := ?_) rfl (by kernel_rfl) (fun _ _ _ h => h) (Or.inl ⟨by rfl, ?_⟩) (.inr (by assumption)) ?_
   rotate_left
   ·(intro wx hSw; (try dsimp only at hSw); go_simp; (try with_reducible rfl))
   (try simp only [Act.put, nA, nB, nC])
   refine wpAnyM_one 19 rfl (by kernel_rfl) (fun K hK => ?_)
   go_simp
   refine hK.out _ _ (.inl (by kernel_rfl)) (fun _ => ?_)
   clear hK K
   (try simp only [Act.put, nA, nB, nC])
   refine wpAnyM_done (by kernel_rfl) ?_ _
   go_wp2_with fail
   go_roundw
   case rel =>
    refine ⟨k + 1, by omega, by go_num, ?_⟩
    have U := HU.out.trans HU4.out
    have tc := two_cells y0 y1 (.int .i64 (hi64 (dotS A B (k + 1)))) (.int .u64 (lo64 (dotS A B (k + 1))))
    refine ⟨?_, tc.1, tc.2, by rw [World.frozen?_setCell, World.frozen?_setCell]; exact fz0, by rw [World.frozen?_setCell, World.frozen?_setCell]; exact fz1, ?_⟩
    ·rw [show (h || dotB A B (k + 1)) = (h || dotB A B k || satH (A k) || satH (B k)) from by simp [dotB, Bool.or_assoc]]
     exact (U.setCell (Nat.le_refl _) _).setCell (Nat.le_refl _) _
    ·have := HU4.out.size; simp [World.setCell]; omega
   case measure => simp [intOf]; omega
  ·have hkn : k = n := by omega
   subst hkn
   have u := R.out.upd
   have sb := dotS_bd A B k
   have rc : wr.cell? c = some (.bool (h || dotB A B k)) := u.cellc HC.out
   have rf : wr.frozen? c = false := (u.frozen hcb).trans HF.out
   have s0 := R.out.c0
   have s1 := R.out.c1
   have HS := Lib.hid sb
   have HU := Lib.hid u
   clear u sb
   go_wp2_with fail
   refine (fround_any c _ (dotS A B k) s _ rc rf n1 n2 (by have := HS.out; omega) (by have := HS.out; omega)).mono ?_; rintro e w5 ⟨rfl, hu5⟩
   go_wp2_with fail
   go_ret
   exact ⟨rfl, HU.out.trans hu5⟩
theorem dot_any (c : Addr) (h : Bool) (s : Int) (A B : Nat → Int) (pa oa ca pb ob cb n : Nat) (w : World) (hc : w.cell? c = some (.bool h)) (hf : w.frozen? c = false)
  (s0 : 0 ≤ s) (s1 : s ≤ 120) (hn : n ≤ 100)
  (hA : ∀ i, i < n → w.cell? ⟨pa, oa + i, none⟩ = some (.int .i64 (A i))) (hB : ∀ i, i < n → w.cell? ⟨pb, ob + i, none⟩ = some (.int .i64 (B i))) :
  Calls Tryz.prog 51 #[.pointer (some c), .int .i64 s, .slice (some ⟨pa, oa, none⟩) n ca, .slice (some ⟨pb, ob, none⟩) n cb] w fun e w' =>
   e = .returned (.int .i64 (dotV s A B n)) ∧ Upd c (h || dotH s A B n) w w' := by
 have hs : ¬ (s < 0 ∨ 120 < s) := by omega
 have e1 : dotV s A B n = satV (rsh (dotS A B n) s.toNat) := by simp only [dotV, if_neg hs]
 have e2 : (h || dotH s A B n) = (h || dotB A B n || satH (rsh (dotS A B n) s.toNat)) := by simp only [dotH, if_neg hs, Bool.or_assoc]
 rw [e1, e2]
 exact dot_in c h s A B pa oa ca pb ob cb n w hc hf s0 s1 hn hA hB
end Go.Proofs.YtgfklheepkgedaaGreat
/- thornton.Step's numbers: one elimination, and all of them. No program. -/
namespace Go.Proofs.YtgfklheepkgedaaGreat
def upd (f : Nat → Int) (j : Nat) (v : Int) : Nat → Int := fun i => if i = j then v else f i
/-- Is one of the first n so? -/
def orB (p : Nat → Bool) : Nat → Bool | 0 => false | n + 1 => orB p n || p n
def varV (a : Int) : Int := clampV a 1 72057594037927936
def varH (a : Int) : Bool := clampH a 1 72057594037927936
def subV (a b : Int) : Int := satV (satV a - satV b)
def subH (a b : Int) : Bool := satH a || satH b || satH (satV a - satV b)
/-- Row i of a matrix of n columns. -/
def rowF (n : Nat) (F : Nat → Int) (i : Nat) : Nat → Int := fun m => F (i * n + m)
/-- Where U's number of row i and column j stands. -/
def pl (i j : Nat) : Nat := j * (j - 1) / 2 + i
/-- One elimination, row j. -/
def stY (W e : Nat → Int) (j : Nat) : Nat → Int := fun k => mulV (W (j * 48 + k)) (e k) 30
def stD (W e : Nat → Int) (j : Nat) : Int := varV (dotV 30 (rowF 48 W j) (stY W e j) 48)
def stU (W e : Nat → Int) (j i : Nat) : Int := divV (dotV 30 (rowF 48 W i) (stY W e j) 48) (stD W e j) 30
def elV (W : Nat → Int) (u : Int) (j i k : Nat) : Int := subV (W (i * 48 + k)) (mulV u (W (j * 48 + k)) 30)
def elB (W : Nat → Int) (u : Int) (j i k : Nat) : Bool := mulH u (W (j * 48 + k)) 30 || subH (W (i * 48 + k)) (mulV u (W (j * 48 + k)) 30)
/-- m rows are done, and of row m the first kk numbers. -/
def elW (W e : Nat → Int) (j m kk : Nat) : Nat → Int := fun x => if x / 48 < m ∨ (x / 48 = m ∧ x % 48 < kk) then elV W (stU W e j (x / 48)) j (x / 48) (x % 48) else W x
def outI (O W e : Nat → Int) (j : Nat) : Nat → Nat → Int | 0 => upd O (276 + j) (stD W e j) | m + 1 => upd (outI O W e j m) (pl m j) (stU W e j m)
def yB (W e : Nat → Int) (j k : Nat) : Bool := mulH (W (j * 48 + k)) (e k) 30
def dB (W e : Nat → Int) (j : Nat) : Bool := dotH 30 (rowF 48 W j) (stY W e j) 48 || varH (dotV 30 (rowF 48 W j) (stY W e j) 48)
def uB (W e : Nat → Int) (j i : Nat) : Bool := dotH 30 (rowF 48 W i) (stY W e j) 48 || divH (dotV 30 (rowF 48 W i) (stY W e j) 48) (stD W e j) 30
def rowB (W e : Nat → Int) (j i : Nat) : Bool := uB W e j i || orB (elB W (stU W e j i) j i) 48
def stageH (W e : Nat → Int) (j : Nat) : Bool := orB (yB W e j) 48 || dB W e j || orB (rowB W e j) j
/-- n eliminations are done: of rows 23, 22, .. -/
def WN (W e : Nat → Int) : Nat → Nat → Int | 0 => W | n + 1 => elW (WN W e n) e (23 - n) (23 - n) 0
def ON (W e : Nat → Int) : Nat → Nat → Int | 0 => fun _ => 0 | n + 1 => outI (ON W e n) (WN W e n) e (23 - n) (23 - n)
def HN (W e : Nat → Int) : Nat → Bool | 0 => false | n + 1 => HN W e n || stageH (WN W e n) e (23 - n)
def addV (a b : Int) : Int := satV (satV a + satV b)
def addH (a b : Int) : Bool := satH a || satH b || satH (satV a + satV b)
def two (x y : Int) : Nat → Int := fun i => if i = 0 then x else y
theorem add2 (x y : Int) (h : Bool) : satV (sumS (two x y) 2) = addV x y ∧ (h || sumB (two x y) 2 || satH (sumS (two x y) 2)) = (h || addH x y) := by
 have e : sumS (two x y) 2 = satV x + satV y := by simp [sumS, two]
 rw [e]
 refine ⟨rfl, ?_⟩
 simp [sumB, two, addH, Bool.or_assoc]
end Go.Proofs.YtgfklheepkgedaaGreat
/- The great noughts by name, where the program's own form does not name them. -/
namespace Go.Proofs.YtgfklheepkgedaaGreat
open Go
end Go.Proofs.YtgfklheepkgedaaGreat
