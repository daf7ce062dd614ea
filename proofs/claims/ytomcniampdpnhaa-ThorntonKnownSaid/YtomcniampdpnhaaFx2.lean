/- Contracts of package fx (2): round, by, Mul, Div, MulDiv. -/
import Derived.Test.YtomcniampdpnhaaFx
import Derived.Test.YtomcniampdpnhaaPlain2
namespace Go.Proofs.Ytomcniampdpnhaa
open Go.RowKit
set_option maxRecDepth 100000
theorem hi_neg (A : Int) : decide (hi64 A < 0) = decide (A < 0) := by
  rw [Bool.eq_iff_iff]; simp; unfold hi64; omega
theorem rsh_neg (A : Int) (k : Nat) (h : ¬ r64F (rsh A k) = true) : decide (A < 0) = decide (rsh A k < 0) := by
  have hp : (0 : Int) < 2 ^ k := Int.pow_pos (by decide)
  have h0 : rsh A k ≠ 0 := by intro e; rw [e] at h; exact h (by decide)
  have := rdiv_sign A (2 ^ k) h0
  rw [Bool.eq_iff_iff]; simp only [decide_eq_true_eq]
  unfold rsh at *
  rw [this]; simp [hp]
theorem fround_walk (c : Addr) (h : Bool) (x y s v : Int) (ok : Bool) (V : Int) (H : Bool) (w : World) (hc : w.cell? c = some (.bool h)) (hf : w.frozen? c = false) (s0 : 0 ≤ s) (s1 : s ≤ 120)
    (hr : ∀ w, Calls Try.prog 33 #[.agg #[.int .i64 x, .int .u64 y], .int .i64 s] w fun e w' => e = .returned (.tuple #[.int .i64 v, .bool ok]) ∧ Below w.heap.size w w')
    (he : ∀ w, w.cell? c = some (.bool h) → w.frozen? c = false → Calls Try.prog 34 #[.pointer (some c), .int .i64 v, .bool ok, .bool (decide (x < 0))] w fun e w' => e = .returned (.int .i64 V) ∧ w.setCell c (.bool H) = w') :
    Calls Try.prog 26 #[.pointer (some c), .agg #[.int .i64 x, .int .u64 y], .int .i64 s] w fun e w' => e = .returned (.int .i64 V) ∧ Upd c H w w' := by
  have c1 : ¬ s < 0 := by omega
  have c2 : ¬ 120 < s := by omega
  have hcb := World.block_lt_of_cell? w c hc
  have HR := Lib.hid hr
  have HE := Lib.hid he
  clear hr he
  go_enter Try.func26, Try.ntmps26
  go_wp2_with fail
  refine (HR.out _).mono ?_; rintro e w1 ⟨rfl, hb1⟩
  have hb1z0 : w.heap.size < w1.heap.size := by have := hb1.size; (try simp at this); omega
  have hb1c0_0 := hb1.cell (p := ⟨w.heap.size, 0, none⟩) (by (try simp); (try omega))
  have hb1f0_0 := hb1.frozen (p := ⟨w.heap.size, 0, none⟩) (by (try simp); (try omega))
  simp [go_sem, *] at hb1c0_0 hb1f0_0
  have hb1c0_1 := hb1.cell (p := ⟨w.heap.size, 1, none⟩) (by (try simp); (try omega))
  have hb1f0_1 := hb1.frozen (p := ⟨w.heap.size, 1, none⟩) (by (try simp); (try omega))
  simp [go_sem, *] at hb1c0_1 hb1f0_1
  have k1 : w1.cell? c = some (.bool h) := (hb1.cell (by simp; omega)).trans (by simp [World.cell?_alloc_lt, hcb, hc])
  have k2 : w1.frozen? c = false := (hb1.frozen (by simp; omega)).trans (by rw [frozen?_alloc_cells]; exact hf)
  go_wp2_with fail
  refine (HE.out _ k1 k2).mono ?_; rintro e w2 ⟨rfl, rfl⟩
  go_wp2_with fail
  go_ret
  refine ⟨rfl, ?_⟩
  have hb : Below w.heap.size w w1 := by (repeat (first | with_reducible exact Below.refl _ _ | with_reducible assumption | with_reducible apply Below.drew | (with_reducible refine below_drewN ?_ _) | (with_reducible refine Below.alloc ?_ (by (try simp) <;> omega) _) | (with_reducible refine Below.setCell ?_ (by (try simp) <;> omega) _) | (with_reducible refine Below.trans ?_ (Below.mono (by assumption) (by (try simp) <;> omega)))))
  exact Upd.after hb (Upd.set c H w1)
theorem fround_any (c : Addr) (h : Bool) (A s : Int) (w : World) (hc : w.cell? c = some (.bool h)) (hf : w.frozen? c = false) (s0 : 0 ≤ s) (s1 : s ≤ 120)
    (a1 : -170141183460469231731687303715884105728 ≤ A) (a2 : A < 170141183460469231731687303715884105728) :
    Calls Try.prog 26 #[.pointer (some c), .agg #[.int .i64 (hi64 A), .int .u64 (lo64 A)], .int .i64 s] w fun e w' =>
      e = .returned (.int .i64 (satV (rsh A s.toNat))) ∧ Upd c (h || satH (rsh A s.toNat)) w w' :=
  fround_walk c h _ _ s _ _ _ _ w hc hf s0 s1 (fun w => round_any A s w s0 (by omega) a1 a2)
    (fun w k1 k2 => end_any c h (rsh A s.toNat) _ w k1 k2 (fun hn => by rw [hi_neg]; exact rsh_neg A _ hn))
theorem fround_bad (c : Addr) (h : Bool) (x y s : Int) (w : World) (hc : w.cell? c = some (.bool h)) (hf : w.frozen? c = false) (s0 : s < 0 ∨ 120 < s) :
    Calls Try.prog 26 #[.pointer (some c), .agg #[.int .i64 x, .int .u64 y], .int .i64 s] w fun e w' => e = .returned (.int .i64 0) ∧ Upd c true w w' := by
  have hcb := World.block_lt_of_cell? w c hc
  have hcn : w.heap.size ≠ c.block := by omega
  have k1 : ∀ o, (w.alloc o).cell? c = some (.bool h) := fun o => by simp [World.cell?_alloc_lt, hcb, hc]
  have k2 : ∀ cs t, (w.alloc (.cells cs t)).frozen? c = false := fun cs t => by rw [frozen?_alloc_cells]; exact hf
  by_cases h1 : s < 0
  · go_enter Try.func26, Try.ntmps26
    go_wp2_with fail
    go_ret
    refine ⟨rfl, ?_⟩
    exact Upd.after (by (repeat (first | with_reducible exact Below.refl _ _ | with_reducible assumption | with_reducible apply Below.drew | (with_reducible refine below_drewN ?_ _) | (with_reducible refine Below.alloc ?_ (by (try simp) <;> omega) _) | (with_reducible refine Below.setCell ?_ (by (try simp) <;> omega) _) | (with_reducible refine Below.trans ?_ (Below.mono (by assumption) (by (try simp) <;> omega)))))) (Upd.set c true _)
  · have h2 : 120 < s := by omega
    go_enter Try.func26, Try.ntmps26
    go_wp2_with fail
    go_ret
    refine ⟨rfl, ?_⟩
    exact Upd.after (by (repeat (first | with_reducible exact Below.refl _ _ | with_reducible assumption | with_reducible apply Below.drew | (with_reducible refine below_drewN ?_ _) | (with_reducible refine Below.alloc ?_ (by (try simp) <;> omega) _) | (with_reducible refine Below.setCell ?_ (by (try simp) <;> omega) _) | (with_reducible refine Below.trans ?_ (Below.mono (by assumption) (by (try simp) <;> omega)))))) (Upd.set c true _)
end Go.Proofs.Ytomcniampdpnhaa
