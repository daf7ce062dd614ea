/- Contracts of package fx (1): Clamp, Sat, end, round, Mul, Sub. -/
import Derived.Test.YtomcniampdpnhaaWadd
namespace Go.Proofs.Ytomcniampdpnhaa
open Go.RowKit
set_option maxRecDepth 100000
theorem clampV_of {a lo hi : Int} (h0 : ¬ hi < lo) (h1 : ¬ a < lo) (h2 : ¬ hi < a) : clampV a lo hi = a ∧ clampH a lo hi = false := by
  simp [clampV, clampH, h0, h1, h2]
theorem clamp_any (c : Addr) (h : Bool) (a lo hi : Int) (w : World) (hc : w.cell? c = some (.bool h)) (hf : w.frozen? c = false) :
    Calls Try.prog 16 #[.pointer (some c), .int .i64 a, .int .i64 lo, .int .i64 hi] w fun e w' =>
      e = .returned (.int .i64 (clampV a lo hi)) ∧ w.setCell c (.bool (h || clampH a lo hi)) = w' := by
  by_cases h0 : hi < lo
  · have e1 : clampV a lo hi = lo := by simp [clampV, h0]
    have e2 : (h || clampH a lo hi) = true := by simp [clampH, h0]
    rw [e1, e2]
    clear e1 e2
    go_enter Try.func16, Try.ntmps16
    go_wp2
    go_ret
    exact ⟨rfl, rfl⟩
  by_cases h1 : a < lo
  · have e1 : clampV a lo hi = lo := by simp [clampV, h1]
    have e2 : (h || clampH a lo hi) = true := by simp [clampH, h1]
    rw [e1, e2]
    clear e1 e2
    go_enter Try.func16, Try.ntmps16
    go_wp2
    go_ret
    exact ⟨rfl, rfl⟩
  by_cases h2 : hi < a
  · have e1 : clampV a lo hi = hi := by simp [clampV, h0, h1, h2]
    have e2 : (h || clampH a lo hi) = true := by simp [clampH, h2]
    rw [e1, e2]
    clear e1 e2
    go_enter Try.func16, Try.ntmps16
    go_wp2
    go_ret
    exact ⟨rfl, rfl⟩
  · obtain ⟨e1, e2⟩ := clampV_of h0 h1 h2
    rw [e1, e2, Bool.or_false, setCell_self w c _ hc]
    clear e1 e2
    go_enter Try.func16, Try.ntmps16
    go_wp2
    go_ret
    exact ⟨rfl, rfl⟩

theorem sat_any (c : Addr) (h : Bool) (a : Int) (w : World) (hc : w.cell? c = some (.bool h)) (hf : w.frozen? c = false) :
    Calls Try.prog 17 #[.pointer (some c), .int .i64 a] w fun e w' => e = .returned (.int .i64 (satV a)) ∧ w.setCell c (.bool (h || satH a)) = w' := by
  have H := fun w hc hf => clamp_any c h a (-1152921504606846976) 1152921504606846976 w hc hf
  go_enter Try.func17, Try.ntmps17
  go_wp2_with (go_at_call 16; refine (clamp_any c h a _ _ _ hc hf).mono ?_; rintro e w' ⟨rfl, rfl⟩)
  go_ret
  exact ⟨rfl, rfl⟩

/-- The bound on a number's side. -/
def signV (neg : Bool) : Int := if neg then -1152921504606846976 else 1152921504606846976
theorem sign_any (neg : Bool) (w : World) : Calls Try.prog 38 #[.bool neg] w fun e w' => e = .returned (.int .i64 (signV neg)) ∧ w = w' := by
  cases neg
  all_goals
    go_enter Try.func38, Try.ntmps38
    go_wp2
    go_ret
    exact ⟨rfl, rfl⟩
theorem end_ok (c : Addr) (h : Bool) (a : Int) (neg : Bool) (w : World) (hc : w.cell? c = some (.bool h)) (hf : w.frozen? c = false) :
    Calls Try.prog 34 #[.pointer (some c), .int .i64 a, .bool true, .bool neg] w fun e w' => e = .returned (.int .i64 (satV a)) ∧ w.setCell c (.bool (h || satH a)) = w' := by
  go_enter Try.func34, Try.ntmps34
  go_wp2_with (go_at_call 17; refine (sat_any c h a _ hc hf).mono ?_; rintro e w' ⟨rfl, rfl⟩)
  go_ret
  exact ⟨rfl, rfl⟩
theorem end_no (c : Addr) (h : Bool) (a : Int) (neg : Bool) (w : World) (hc : w.cell? c = some (.bool h)) (hf : w.frozen? c = false) :
    Calls Try.prog 34 #[.pointer (some c), .int .i64 a, .bool false, .bool neg] w fun e w' => e = .returned (.int .i64 (signV neg)) ∧ w.setCell c (.bool true) = w' := by
  go_enter Try.func34, Try.ntmps34
  go_wp2_with (go_at_call 38; refine (sign_any neg _).mono ?_; rintro e w' ⟨rfl, rfl⟩)
  go_ret
  exact ⟨rfl, rfl⟩
/-- What was reckoned (x), clamped. -/
theorem end_any (c : Addr) (h : Bool) (x : Int) (neg : Bool) (w : World) (hc : w.cell? c = some (.bool h)) (hf : w.frozen? c = false) (hn : ¬ r64F x = true → neg = decide (x < 0)) :
    Calls Try.prog 34 #[.pointer (some c), .int .i64 (r64V x), .bool (r64F x), .bool neg] w fun e w' => e = .returned (.int .i64 (satV x)) ∧ w.setCell c (.bool (h || satH x)) = w' := by
  by_cases hx : r64F x = true
  · have : r64V x = x := by simp [r64V, hx]
    rw [hx, this]
    exact end_ok c h x neg w hc hf
  · have h2 : r64F x = false := by simpa using hx
    have h3 := hn hx
    rw [h2]
    refine (end_no c h _ neg w hc hf).mono fun e w' hh => ⟨hh.1.trans (retI ?_), ?_⟩
    · subst h3
      by_cases h0 : x < 0
      · simp [r64F] at h2; simp [signV, satV, clampV, h0]; omega
      · simp [r64F] at h2; simp [signV, satV, clampV, h0]; omega
    · rw [← hh.2]
      have : satH x = true := by simp [r64F] at h2; simp [satH, clampH]; omega
      simp [this]
theorem sub_any (c : Addr) (h : Bool) (a b : Int) (w : World) (hc : w.cell? c = some (.bool h)) (hf : w.frozen? c = false) :
    Calls Try.prog 22 #[.pointer (some c), .int .i64 a, .int .i64 b] w fun e w' =>
      e = .returned (.int .i64 (satV (satV a - satV b))) ∧ w.setCell c (.bool (h || satH a || satH b || satH (satV a - satV b))) = w' := by
  have ba := satV_bd a
  have bb := satV_bd b
  obtain ⟨x, hx⟩ : ∃ x, satV a = x := ⟨_, rfl⟩
  obtain ⟨y, hy⟩ : ∃ y, satV b = y := ⟨_, rfl⟩
  have c1 : (w.setCell c (.bool (h || satH a))).cell? c = some (.bool (h || satH a)) := World.cell?_setCell_same _ _ _ hc
  have c2 : ((w.setCell c (.bool (h || satH a))).setCell c (.bool (h || satH a || satH b))).cell? c = some (.bool (h || satH a || satH b)) := World.cell?_setCell_same _ _ _ c1
  have f1 : ∀ v, (w.setCell c v).frozen? c = false := fun v => by simp [hf]
  go_enter Try.func22, Try.ntmps22
  go_wp2_with fail
  refine (sat_any c h a _ hc hf).mono ?_; rintro e w' ⟨rfl, rfl⟩
  go_wp2_with fail
  refine (sat_any c _ b _ c1 (f1 _)).mono ?_; rintro e w' ⟨rfl, rfl⟩
  go_wp2_with fail
  obtain ⟨z, hz⟩ : ∃ z, satV (x - y) = z := ⟨_, rfl⟩
  refine (sat_any c _ (x - y) _ c2 (by simp [hf])).mono ?_; rintro e w' ⟨rfl, rfl⟩
  go_wp2_with fail
  go_ret
  rw [hx, hy, hz]
  exact ⟨rfl, by simp only [setCell_setCell]⟩
end Go.Proofs.Ytomcniampdpnhaa
