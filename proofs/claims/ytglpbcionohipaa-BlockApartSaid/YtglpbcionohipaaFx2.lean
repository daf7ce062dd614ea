/- Contracts of package fx (1): Clamp, Sat, end, round, Mul, Sub. -/
/- Contracts of package fx (2): round, by, Mul, Div, MulDiv. -/
import Derived.Test.YtglpbcionohipaaWadd
import Derived.Test.YtglpbcionohipaaPlain2
namespace Go.Proofs.Ytglpbcionohipaa
open Go.RowKit
set_option maxRecDepth 100000
theorem clampV_of {a lo hi : Int} (h0 : ¬ hi < lo) (h1 : ¬ a < lo) (h2 : ¬ hi < a) : clampV a lo hi = a ∧ clampH a lo hi = false := by
  simp [clampV, clampH, h0, h1, h2]
theorem clamp_any (c : Addr) (h : Bool) (a lo hi : Int) (w : World) (hc : w.cell? c = some (.bool h)) (hf : w.frozen? c = false) :
    Calls Try.prog 22 #[.pointer (some c), .int .i64 a, .int .i64 lo, .int .i64 hi] w fun e w' =>
      e = .returned (.int .i64 (clampV a lo hi)) ∧ w.setCell c (.bool (h || clampH a lo hi)) = w' := by
  by_cases h0 : hi < lo
  · have e1 : clampV a lo hi = lo := by simp [clampV, h0]
    have e2 : (h || clampH a lo hi) = true := by simp [clampH, h0]
    rw [e1, e2]
    clear e1 e2
    go_enter Try.func22, Try.ntmps22
    go_wp2
    go_ret
    exact ⟨rfl, rfl⟩
  by_cases h1 : a < lo
  · have e1 : clampV a lo hi = lo := by simp [clampV, h1]
    have e2 : (h || clampH a lo hi) = true := by simp [clampH, h1]
    rw [e1, e2]
    clear e1 e2
    go_enter Try.func22, Try.ntmps22
    go_wp2
    go_ret
    exact ⟨rfl, rfl⟩
  by_cases h2 : hi < a
  · have e1 : clampV a lo hi = hi := by simp [clampV, h0, h1, h2]
    have e2 : (h || clampH a lo hi) = true := by simp [clampH, h2]
    rw [e1, e2]
    clear e1 e2
    go_enter Try.func22, Try.ntmps22
    go_wp2
    go_ret
    exact ⟨rfl, rfl⟩
  · obtain ⟨e1, e2⟩ := clampV_of h0 h1 h2
    rw [e1, e2, Bool.or_false, setCell_self w c _ hc]
    clear e1 e2
    go_enter Try.func22, Try.ntmps22
    go_wp2
    go_ret
    exact ⟨rfl, rfl⟩

theorem sat_any (c : Addr) (h : Bool) (a : Int) (w : World) (hc : w.cell? c = some (.bool h)) (hf : w.frozen? c = false) :
    Calls Try.prog 28 #[.pointer (some c), .int .i64 a] w fun e w' => e = .returned (.int .i64 (satV a)) ∧ w.setCell c (.bool (h || satH a)) = w' := by
  have H := fun w hc hf => clamp_any c h a (-1152921504606846976) 1152921504606846976 w hc hf
  go_enter Try.func28, Try.ntmps28
  go_wp2_with (go_at_call 22; refine (clamp_any c h a _ _ _ hc hf).mono ?_; rintro e w' ⟨rfl, rfl⟩)
  go_ret
  exact ⟨rfl, rfl⟩

/-- The bound on a number's side. -/
def signV (neg : Bool) : Int := if neg then -1152921504606846976 else 1152921504606846976
theorem sign_any (neg : Bool) (w : World) : Calls Try.prog 43 #[.bool neg] w fun e w' => e = .returned (.int .i64 (signV neg)) ∧ w = w' := by
  cases neg
  all_goals
    go_enter Try.func43, Try.ntmps43
    go_wp2
    go_ret
    exact ⟨rfl, rfl⟩
theorem end_ok (c : Addr) (h : Bool) (a : Int) (neg : Bool) (w : World) (hc : w.cell? c = some (.bool h)) (hf : w.frozen? c = false) :
    Calls Try.prog 41 #[.pointer (some c), .int .i64 a, .bool true, .bool neg] w fun e w' => e = .returned (.int .i64 (satV a)) ∧ w.setCell c (.bool (h || satH a)) = w' := by
  go_enter Try.func41, Try.ntmps41
  go_wp2_with (go_at_call 28; refine (sat_any c h a _ hc hf).mono ?_; rintro e w' ⟨rfl, rfl⟩)
  go_ret
  exact ⟨rfl, rfl⟩
theorem end_no (c : Addr) (h : Bool) (a : Int) (neg : Bool) (w : World) (hc : w.cell? c = some (.bool h)) (hf : w.frozen? c = false) :
    Calls Try.prog 41 #[.pointer (some c), .int .i64 a, .bool false, .bool neg] w fun e w' => e = .returned (.int .i64 (signV neg)) ∧ w.setCell c (.bool true) = w' := by
  go_enter Try.func41, Try.ntmps41
  go_wp2_with (go_at_call 43; refine (sign_any neg _).mono ?_; rintro e w' ⟨rfl, rfl⟩)
  go_ret
  exact ⟨rfl, rfl⟩
/-- What was reckoned (x), clamped. -/
theorem end_any (c : Addr) (h : Bool) (x : Int) (neg : Bool) (w : World) (hc : w.cell? c = some (.bool h)) (hf : w.frozen? c = false) (hn : ¬ r64F x = true → neg = decide (x < 0)) :
    Calls Try.prog 41 #[.pointer (some c), .int .i64 (r64V x), .bool (r64F x), .bool neg] w fun e w' => e = .returned (.int .i64 (satV x)) ∧ w.setCell c (.bool (h || satH x)) = w' := by
  by_cases hx : r64F x = true
  · have : r64V x = x := by simp [r64V, hx]
    rw [hx, this]
    exact end_ok c h x neg w hc hf
  · have h2 : r64F x = false := by simpa using hx
    have h3 := hn hx
    rw [h2]
    refine (end_no c h _ neg w hc hf).mono fun e w' hh => ⟨hh.1.trans (retI ?_), ?_⟩
    · subst h3
      by_cases h0 : x < 0
      · simp [r64F] at h2; simp [signV, satV, clampV, h0]; omega
      · simp [r64F] at h2; simp [signV, satV, clampV, h0]; omega
    · rw [← hh.2]
      have : satH x = true := by simp [r64F] at h2; simp [satH, clampH]; omega
      simp [this]
theorem sub_any (c : Addr) (h : Bool) (a b : Int) (w : World) (hc : w.cell? c = some (.bool h)) (hf : w.frozen? c = false) :
    Calls Try.prog 51 #[.pointer (some c), .int .i64 a, .int .i64 b] w fun e w' =>
      e = .returned (.int .i64 (satV (satV a - satV b))) ∧ w.setCell c (.bool (h || satH a || satH b || satH (satV a - satV b))) = w' := by
  have ba := satV_bd a
  have bb := satV_bd b
  obtain ⟨x, hx⟩ : ∃ x, satV a = x := ⟨_, rfl⟩
  obtain ⟨y, hy⟩ : ∃ y, satV b = y := ⟨_, rfl⟩
  have c1 : (w.setCell c (.bool (h || satH a))).cell? c = some (.bool (h || satH a)) := World.cell?_setCell_same _ _ _ hc
  have c2 : ((w.setCell c (.bool (h || satH a))).setCell c (.bool (h || satH a || satH b))).cell? c = some (.bool (h || satH a || satH b)) := World.cell?_setCell_same _ _ _ c1
  have f1 : ∀ v, (w.setCell c v).frozen? c = false := fun v => by simp [hf]
  go_enter Try.func51, Try.ntmps51
  go_wp2_with fail
  refine (sat_any c h a _ hc hf).mono ?_; rintro e w' ⟨rfl, rfl⟩
  go_wp2_with fail
  refine (sat_any c _ b _ c1 (f1 _)).mono ?_; rintro e w' ⟨rfl, rfl⟩
  go_wp2_with fail
  obtain ⟨z, hz⟩ : ∃ z, satV (x - y) = z := ⟨_, rfl⟩
  refine (sat_any c _ (x - y) _ c2 (by simp [hf])).mono ?_; rintro e w' ⟨rfl, rfl⟩
  go_wp2_with fail
  go_ret
  rw [hx, hy, hz]
  exact ⟨rfl, by simp only [setCell_setCell]⟩
end Go.Proofs.Ytglpbcionohipaa
namespace Go.Proofs.Ytglpbcionohipaa
open Go.RowKit
set_option maxRecDepth 100000
theorem hi_neg (A : Int) : decide (hi64 A < 0) = decide (A < 0) := by
  rw [Bool.eq_iff_iff]; simp; unfold hi64; omega
theorem rsh_neg (A : Int) (k : Nat) (h : ¬ r64F (rsh A k) = true) : decide (A < 0) = decide (rsh A k < 0) := by
  have hp : (0 : Int) < 2 ^ k := Int.pow_pos (by decide)
  have h0 : rsh A k ≠ 0 := by intro e; rw [e] at h; exact h (by decide)
  have := rdiv_sign A (2 ^ k) h0
  rw [Bool.eq_iff_iff]; simp only [decide_eq_true_eq]
  unfold rsh at *
  rw [this]; simp [hp]
theorem fround_walk (c : Addr) (h : Bool) (x y s v : Int) (ok : Bool) (V : Int) (H : Bool) (w : World) (hc : w.cell? c = some (.bool h)) (hf : w.frozen? c = false) (s0 : 0 ≤ s) (s1 : s ≤ 120)
    (hr : ∀ w, Calls Try.prog 40 #[.agg #[.int .i64 x, .int .u64 y], .int .i64 s] w fun e w' => e = .returned (.tuple #[.int .i64 v, .bool ok]) ∧ Below w.heap.size w w')
    (he : ∀ w, w.cell? c = some (.bool h) → w.frozen? c = false → Calls Try.prog 41 #[.pointer (some c), .int .i64 v, .bool ok, .bool (decide (x < 0))] w fun e w' => e = .returned (.int .i64 V) ∧ w.setCell c (.bool H) = w') :
    Calls Try.prog 42 #[.pointer (some c), .agg #[.int .i64 x, .int .u64 y], .int .i64 s] w fun e w' => e = .returned (.int .i64 V) ∧ Upd c H w w' := by
  have c1 : ¬ s < 0 := by omega
  have c2 : ¬ 120 < s := by omega
  have hcb := World.block_lt_of_cell? w c hc
  have HR := Lib.hid hr
  have HE := Lib.hid he
  clear hr he
  go_enter Try.func42, Try.ntmps42
  go_wp2_with fail
  refine (HR.out _).mono ?_; rintro e w1 ⟨rfl, hb1⟩
  have hb1z0 : w.heap.size < w1.heap.size := by have := hb1.size; (try simp at this); omega
  have hb1c0_0 := hb1.cell (p := ⟨w.heap.size, 0, none⟩) (by (try simp); (try omega))
  have hb1f0_0 := hb1.frozen (p := ⟨w.heap.size, 0, none⟩) (by (try simp); (try omega))
  simp [go_sem, *] at hb1c0_0 hb1f0_0
  have hb1c0_1 := hb1.cell (p := ⟨w.heap.size, 1, none⟩) (by (try simp); (try omega))
  have hb1f0_1 := hb1.frozen (p := ⟨w.heap.size, 1, none⟩) (by (try simp); (try omega))
  simp [go_sem, *] at hb1c0_1 hb1f0_1
  have k1 : w1.cell? c = some (.bool h) := (hb1.cell (by simp; omega)).trans (by simp [World.cell?_alloc_lt, hcb, hc])
  have k2 : w1.frozen? c = false := (hb1.frozen (by simp; omega)).trans (by rw [frozen?_alloc_cells]; exact hf)
  go_wp2_with fail
  refine (HE.out _ k1 k2).mono ?_; rintro e w2 ⟨rfl, rfl⟩
  go_wp2_with fail
  go_ret
  refine ⟨rfl, ?_⟩
  have hb : Below w.heap.size w w1 := by (repeat (first | with_reducible exact Below.refl _ _ | with_reducible assumption | with_reducible apply Below.drew | (with_reducible refine below_drewN ?_ _) | (with_reducible refine Below.alloc ?_ (by (try simp) <;> omega) _) | (with_reducible refine Below.setCell ?_ (by (try simp) <;> omega) _) | (with_reducible refine Below.trans ?_ (Below.mono (by assumption) (by (try simp) <;> omega)))))
  exact Upd.after hb (Upd.set c H w1)
theorem fround_any (c : Addr) (h : Bool) (A s : Int) (w : World) (hc : w.cell? c = some (.bool h)) (hf : w.frozen? c = false) (s0 : 0 ≤ s) (s1 : s ≤ 120)
    (a1 : -170141183460469231731687303715884105728 ≤ A) (a2 : A < 170141183460469231731687303715884105728) :
    Calls Try.prog 42 #[.pointer (some c), .agg #[.int .i64 (hi64 A), .int .u64 (lo64 A)], .int .i64 s] w fun e w' =>
      e = .returned (.int .i64 (satV (rsh A s.toNat))) ∧ Upd c (h || satH (rsh A s.toNat)) w w' :=
  fround_walk c h _ _ s _ _ _ _ w hc hf s0 s1 (fun w => round_any A s w s0 (by omega) a1 a2)
    (fun w k1 k2 => end_any c h (rsh A s.toNat) _ w k1 k2 (fun hn => by rw [hi_neg]; exact rsh_neg A _ hn))
theorem fround_bad (c : Addr) (h : Bool) (x y s : Int) (w : World) (hc : w.cell? c = some (.bool h)) (hf : w.frozen? c = false) (s0 : s < 0 ∨ 120 < s) :
    Calls Try.prog 42 #[.pointer (some c), .agg #[.int .i64 x, .int .u64 y], .int .i64 s] w fun e w' => e = .returned (.int .i64 0) ∧ Upd c true w w' := by
  have hcb := World.block_lt_of_cell? w c hc
  have hcn : w.heap.size ≠ c.block := by omega
  have k1 : ∀ o, (w.alloc o).cell? c = some (.bool h) := fun o => by simp [World.cell?_alloc_lt, hcb, hc]
  have k2 : ∀ cs t, (w.alloc (.cells cs t)).frozen? c = false := fun cs t => by rw [frozen?_alloc_cells]; exact hf
  by_cases h1 : s < 0
  · go_enter Try.func42, Try.ntmps42
    go_wp2_with fail
    go_ret
    refine ⟨rfl, ?_⟩
    exact Upd.after (by (repeat (first | with_reducible exact Below.refl _ _ | with_reducible assumption | with_reducible apply Below.drew | (with_reducible refine below_drewN ?_ _) | (with_reducible refine Below.alloc ?_ (by (try simp) <;> omega) _) | (with_reducible refine Below.setCell ?_ (by (try simp) <;> omega) _) | (with_reducible refine Below.trans ?_ (Below.mono (by assumption) (by (try simp) <;> omega)))))) (Upd.set c true _)
  · have h2 : 120 < s := by omega
    go_enter Try.func42, Try.ntmps42
    go_wp2_with fail
    go_ret
    refine ⟨rfl, ?_⟩
    exact Upd.after (by (repeat (first | with_reducible exact Below.refl _ _ | with_reducible assumption | with_reducible apply Below.drew | (with_reducible refine below_drewN ?_ _) | (with_reducible refine Below.alloc ?_ (by (try simp) <;> omega) _) | (with_reducible refine Below.setCell ?_ (by (try simp) <;> omega) _) | (with_reducible refine Below.trans ?_ (Below.mono (by assumption) (by (try simp) <;> omega)))))) (Upd.set c true _)
end Go.Proofs.Ytglpbcionohipaa
