/- Contracts of package fx (3): Mul, by, Div, MulDiv. -/
import Derived.Test.YtcbklolfibdffaaFx2
namespace Go.Proofs.Ytcbklolfibdffaa
open Go.RowKit
set_option maxRecDepth 100000
theorem rdiv_neg (A d : Int) (hd : d ≠ 0) (h : ¬ r64F (rdiv A d) = true) : (!decide (A < 0) == decide (d < 0)) = decide (rdiv A d < 0) := by
  have h0 : rdiv A d ≠ 0 := by intro e; rw [e] at h; exact h (by decide)
  have := rdiv_sign A d h0
  have e : decide (rdiv A d < 0) = decide (¬ ((0 ≤ A) = (0 < d))) := by rw [Bool.eq_iff_iff]; simp only [decide_eq_true_eq]; exact this
  rw [e]
  by_cases h1 : A < 0 <;> by_cases h2 : d < 0
  · simp [h1, h2, show ¬ 0 ≤ A by omega, show ¬ 0 < d by omega]
  · simp [h1, h2, show ¬ 0 ≤ A by omega, show 0 < d by omega]
  · simp [h1, h2, show 0 ≤ A by omega, show ¬ 0 < d by omega]
  · simp [h1, h2, show 0 ≤ A by omega, show 0 < d by omega]
theorem by_any (c : Addr) (h : Bool) (A d : Int) (w : World) (hc : w.cell? c = some (.bool h)) (hf : w.frozen? c = false)
    (d1 : -9223372036854775808 ≤ d) (d2 : d < 9223372036854775808) (a1 : -170141183460469231731687303715884105728 ≤ A) (a2 : A < 170141183460469231731687303715884105728) :
    Calls Try.prog 44 #[.pointer (some c), .agg #[.int .i64 (hi64 A), .int .u64 (lo64 A)], .int .i64 d] w fun e w' =>
      e = .returned (.int .i64 (byV A d)) ∧ Upd c (h || byH A d) w w' := by
  have hcb := World.block_lt_of_cell? w c hc
  have hcn : ∀ o, c ≠ ⟨w.heap.size, o, none⟩ := fun o e => by rw [e] at hcb; simp at hcb
  have k1 : ∀ o, (w.alloc o).cell? c = some (.bool h) := fun o => by simp [World.cell?_alloc_lt, hcb, hc]
  have k2 : ∀ cs t, (w.alloc (.cells cs t)).frozen? c = false := fun cs t => by rw [frozen?_alloc_cells]; exact hf
  by_cases hd : d = 0
  · subst hd
    have e2 : (h || byH A 0) = true := by simp [byH]
    rw [e2]
    by_cases hA : A = 0
    · subst hA
      have e1 : byV 0 0 = 0 := by decide
      have g1 : hi64 0 = 0 := by decide
      have g2 : lo64 0 = 0 := by decide
      rw [e1, g1, g2]
      clear e1 g1 g2 a1 a2 d1 d2
      go_enter Try.func44, Try.ntmps44
      go_wp2_with fail
      go_ret
      exact ⟨rfl, Upd.after (by (repeat (first | with_reducible exact Below.refl _ _ | with_reducible assumption | with_reducible apply Below.drew | (with_reducible refine below_drewN ?_ _) | (with_reducible refine Below.alloc ?_ (by (try simp) <;> omega) _) | (with_reducible refine Below.setCell ?_ (by (try simp) <;> omega) _) | (with_reducible refine Below.trans ?_ (Below.mono (by assumption) (by (try simp) <;> omega)))))) (Upd.set c true _)⟩
    · have e1 : byV A 0 = signV (decide (hi64 A < 0)) := by
        rw [hi_neg]; by_cases h0 : A < 0 <;> simp [byV, hA, h0, signV]
      have g : hi64 A = 0 → lo64 A = 0 → False := by unfold hi64 lo64; omega
      rw [e1]
      obtain ⟨x, hx⟩ : ∃ x, hi64 A = x := ⟨_, rfl⟩
      obtain ⟨y, hy⟩ : ∃ y, lo64 A = y := ⟨_, rfl⟩
      rw [hx, hy] at g
      rw [hx, hy]
      clear e1 a1 a2 d1 d2 hx hy hA e2
      by_cases hx0 : x = 0
      · subst hx0
        have hy0 : (y == 0) = false := by rw [Bool.eq_false_iff]; intro hh; simp at hh; exact g rfl hh
        clear g
        rw [show decide ((0 : Int) < 0) = false from rfl]
        go_enter Try.func44, Try.ntmps44
        go_wp2_with fail
        refine (sign_any _ _).mono ?_; rintro e w' ⟨rfl, rfl⟩
        go_wp2_with fail
        go_ret
        exact ⟨rfl, Upd.after (by (repeat (first | with_reducible exact Below.refl _ _ | with_reducible assumption | with_reducible apply Below.drew | (with_reducible refine below_drewN ?_ _) | (with_reducible refine Below.alloc ?_ (by (try simp) <;> omega) _) | (with_reducible refine Below.setCell ?_ (by (try simp) <;> omega) _) | (with_reducible refine Below.trans ?_ (Below.mono (by assumption) (by (try simp) <;> omega)))))) (Upd.set c true _)⟩
      · have hx1 : (x == 0) = false := by simpa using hx0
        clear g
        go_enter Try.func44, Try.ntmps44
        go_wp2_with fail
        refine (sign_any _ _).mono ?_; rintro e w' ⟨rfl, rfl⟩
        go_wp2_with fail
        go_ret
        exact ⟨rfl, Upd.after (by (repeat (first | with_reducible exact Below.refl _ _ | with_reducible assumption | with_reducible apply Below.drew | (with_reducible refine below_drewN ?_ _) | (with_reducible refine Below.alloc ?_ (by (try simp) <;> omega) _) | (with_reducible refine Below.setCell ?_ (by (try simp) <;> omega) _) | (with_reducible refine Below.trans ?_ (Below.mono (by assumption) (by (try simp) <;> omega)))))) (Upd.set c true _)⟩
  · have e1 : byV A d = satV (rdiv A d) := by simp [byV, hd]
    have e2 : (h || byH A d) = (h || satH (rdiv A d)) := by simp [byH, hd]
    rw [e1, e2]
    have hd0 : (d == 0) = false := by simpa using hd
    have H1 := Lib.hid (fun w => wdiv_any A d w hd d1 d2 a1 a2)
    have H2 := Lib.hid (fun w k1 k2 => end_any c h (rdiv A d) (!decide (hi64 A < 0) == decide (d < 0)) w k1 k2 (fun hn => by rw [hi_neg]; exact rdiv_neg A d hd hn))
    obtain ⟨V, hV⟩ : ∃ V, satV (rdiv A d) = V := ⟨_, rfl⟩
    obtain ⟨H, hH⟩ : ∃ H, (h || satH (rdiv A d)) = H := ⟨_, rfl⟩
    obtain ⟨v, hv⟩ : ∃ v, r64V (rdiv A d) = v := ⟨_, rfl⟩
    obtain ⟨o, ho⟩ : ∃ o, r64F (rdiv A d) = o := ⟨_, rfl⟩
    obtain ⟨x, hx⟩ : ∃ x, hi64 A = x := ⟨_, rfl⟩
    obtain ⟨y, hy⟩ : ∃ y, lo64 A = y := ⟨_, rfl⟩
    rw [hV, hH, hx, hv, ho] at H2
    rw [hv, ho, hx, hy] at H1
    rw [hV, hH, hx, hy]
    clear hV hH hx hy hv ho a1 a2 d1 d2 e1 e2 k1 k2 hd
    go_enter Try.func44, Try.ntmps44
    go_wp2_with fail
    refine (H1.out _).mono ?_; rintro e w1 ⟨rfl, hb1⟩
    have hb1z0 : w.heap.size < w1.heap.size := by have := hb1.size; (try simp at this); omega
    have hb1c0_0 := hb1.cell (p := ⟨w.heap.size, 0, none⟩) (by (try simp); (try omega))
    have hb1f0_0 := hb1.frozen (p := ⟨w.heap.size, 0, none⟩) (by (try simp); (try omega))
    simp [go_sem, *] at hb1c0_0 hb1f0_0
    have hb1c0_1 := hb1.cell (p := ⟨w.heap.size, 1, none⟩) (by (try simp); (try omega))
    have hb1f0_1 := hb1.frozen (p := ⟨w.heap.size, 1, none⟩) (by (try simp); (try omega))
    simp [go_sem, *] at hb1c0_1 hb1f0_1
    have k1 : w1.cell? c = some (.bool h) := (hb1.cell (by simp; omega)).trans (by simp [World.cell?_alloc_lt, hcb, hc])
    have k2 : w1.frozen? c = false := (hb1.frozen (by simp; omega)).trans (by rw [frozen?_alloc_cells]; exact hf)
    go_wp2_with fail
    refine (H2.out _ k1 k2).mono ?_; rintro e w2 ⟨rfl, rfl⟩
    go_wp2_with fail
    go_ret
    refine ⟨rfl, ?_⟩
    have hb : Below w.heap.size w w1 := by (repeat (first | with_reducible exact Below.refl _ _ | with_reducible assumption | with_reducible apply Below.drew | (with_reducible refine below_drewN ?_ _) | (with_reducible refine Below.alloc ?_ (by (try simp) <;> omega) _) | (with_reducible refine Below.setCell ?_ (by (try simp) <;> omega) _) | (with_reducible refine Below.trans ?_ (Below.mono (by assumption) (by (try simp) <;> omega)))))
    exact Upd.after hb (Upd.set c H w1)
end Go.Proofs.Ytcbklolfibdffaa
