/- The walk of FuseRises. -/
import Derived.Test.YtchholofnccbmaaQ18
namespace Go.Proofs.Ytchholofnccbmaa
open Go.RowKit
set_option maxRecDepth 100000
set_option maxHeartbeats 4000000 in
theorem rises_noop (y z s t a b : Int) (w : World) (h : s < 1 ∨ t < s ∨ 1125899906842624 < t ∨ a < 1 ∨ b < a ∨ 1000 < b) :
    Calls Try.prog 4 #[.int .i64 y, .int .i64 z, .int .i64 s, .int .i64 t, .int .i64 a, .int .i64 b] w fun e w' => e = .returned (.bool true) ∧ Below w.heap.size w w' := by
  go_enter Try.func4, Try.ntmps4
  go_upto_region 5 with (go_at_call 9; (refine (awake18_any _).mono ?_); rintro e w1 ⟨rfl, hb1⟩)
  all_goals (first | (exfalso; omega) | (go_wp2_with fail; go_ret; exact ⟨rfl, hb1⟩))
set_option maxHeartbeats 4000000 in
theorem rises_far (y z s t a b : Int) (w : World) (hs : 1 ≤ s) (hst : s ≤ t) (ht : t ≤ 1125899906842624) (ha : 1 ≤ a) (hab : a ≤ b) (hb : b ≤ 1000) (hz : absV y < absV z) :
    Calls Try.prog 4 #[.int .i64 y, .int .i64 z, .int .i64 s, .int .i64 t, .int .i64 a, .int .i64 b] w fun e w' => e = .returned (.bool true) ∧ Below w.heap.size w w' := by
  have t1 : decide (s < 1) = false := by simp; omega
  have t2 : decide (t < s) = false := by simp; omega
  have t3 : decide (1125899906842624 < t) = false := by simp; omega
  have t4 : decide (a < 1) = false := by simp; omega
  have t5 : decide (b < a) = false := by simp; omega
  have t6 : decide (1000 < b) = false := by simp; omega
  have hz' := Lib.hid hz
  clear hz
  go_enter Try.func4, Try.ntmps4
  obtain ⟨AY, hAY⟩ : ∃ x, absV y = x := ⟨_, rfl⟩
  obtain ⟨AZ, hAZ⟩ : ∃ x, absV z = x := ⟨_, rfl⟩
  rw [hAY, hAZ] at hz'
  have d1 : decide (AY < AZ) = true := by have := hz'.out; simp; omega
  have HY := Lib.hid hAY
  have HZ := Lib.hid hAZ
  clear hAY hAZ
  go_upto_region 6 with (first | (go_at_call 9; (refine (awake18_any _).mono ?_); rintro e w1 ⟨rfl, hb1⟩; have B1 := Lib.hid hb1; clear hb1) | (go_at_call 14; (refine (fabs_any _ _).mono ?_); rintro e w2 ⟨rfl, rfl⟩; (first | rw [HZ.out] | rw [HY.out])))
  go_wp2_with fail
  go_ret
  exact ⟨rfl, B1.out⟩
set_option maxHeartbeats 4000000 in
theorem rises_near (y z s t a b : Int) (w : World) (hs : 1 ≤ s) (hst : s ≤ t) (ht : t ≤ 1125899906842624) (ha : 1 ≤ a) (hab : a ≤ b) (hb : b ≤ 1000) (hz : absV z ≤ absV y) :
    Calls Try.prog 4 #[.int .i64 y, .int .i64 z, .int .i64 s, .int .i64 t, .int .i64 a, .int .i64 b] w fun e w' => e = .returned (.bool true) ∧ Below w.heap.size w w' := by
  have t1 : decide (s < 1) = false := by simp; omega
  have t2 : decide (t < s) = false := by simp; omega
  have t3 : decide (1125899906842624 < t) = false := by simp; omega
  have t4 : decide (a < 1) = false := by simp; omega
  have t5 : decide (b < a) = false := by simp; omega
  have t6 : decide (1000 < b) = false := by simp; omega
  have HR := Lib.hid (fun h => lik_rises (y := y) (z := z) hs hst ht ha hab hb hz h)
  have hz' := Lib.hid hz
  clear hz
  go_enter Try.func4, Try.ntmps4
  obtain ⟨AY, hAY⟩ : ∃ x, absV y = x := ⟨_, rfl⟩
  obtain ⟨AZ, hAZ⟩ : ∃ x, absV z = x := ⟨_, rfl⟩
  rw [hAY, hAZ] at hz'
  have d1 : decide (AY < AZ) = false := by have := hz'.out; simp; omega
  have HY := Lib.hid hAY
  have HZ := Lib.hid hAZ
  clear hAY hAZ
  obtain ⟨P1, hP1⟩ : ∃ x, likB y s a = x := ⟨_, rfl⟩
  obtain ⟨P2, hP2⟩ : ∃ x, likB z t b = x := ⟨_, rfl⟩
  have H1 := Lib.hid hP1
  have H2 := Lib.hid hP2
  rw [hP1, hP2] at HR
  clear hP1 hP2
  cases P1 with
  | false =>
    go_upto_region 8 with (first | (go_at_call 9; (refine (awake18_any _).mono ?_); rintro e w1 ⟨rfl, hb1⟩; have B1 := Lib.hid hb1; clear hb1) | (go_at_call 14; (refine (fabs_any _ _).mono ?_); rintro e w2 ⟨rfl, rfl⟩; (first | rw [HZ.out] | rw [HY.out])) | (go_at_call 13; (refine (likely_any _ _ _ _ (by omega) (by omega)).mono ?_); rintro e w3 ⟨rfl, hb3⟩; (first | rw [H1.out] | rw [H2.out]); have B2 := Lib.hid (Below.after B1.out hb3); clear B1 hb3; have B1 := B2; clear B2))
    go_ret
    exact ⟨rfl, B1.out⟩
  | true =>
    obtain rfl := HR.out rfl
    go_upto_region 8 with (first | (go_at_call 9; (refine (awake18_any _).mono ?_); rintro e w1 ⟨rfl, hb1⟩; have B1 := Lib.hid hb1; clear hb1) | (go_at_call 14; (refine (fabs_any _ _).mono ?_); rintro e w2 ⟨rfl, rfl⟩; (first | rw [HZ.out] | rw [HY.out])) | (go_at_call 13; (refine (likely_any _ _ _ _ (by omega) (by omega)).mono ?_); rintro e w3 ⟨rfl, hb3⟩; (first | rw [H1.out] | rw [H2.out]); have B2 := Lib.hid (Below.after B1.out hb3); clear B1 hb3; have B1 := B2; clear B2))
    go_ret
    exact ⟨rfl, B1.out⟩
theorem rises_walk (y z s t a b : Int) (w : World) :
    Calls Try.prog 4 #[.int .i64 y, .int .i64 z, .int .i64 s, .int .i64 t, .int .i64 a, .int .i64 b] w fun e w' => e = .returned (.bool true) ∧ Below w.heap.size w w' := by
  by_cases h : s < 1 ∨ t < s ∨ 1125899906842624 < t ∨ a < 1 ∨ b < a ∨ 1000 < b
  · exact rises_noop y z s t a b w h
  · by_cases hz : absV z ≤ absV y
    · exact rises_near y z s t a b w (by omega) (by omega) (by omega) (by omega) (by omega) (by omega) hz
    · exact rises_far y z s t a b w (by omega) (by omega) (by omega) (by omega) (by omega) (by omega) (by omega)
end Go.Proofs.Ytchholofnccbmaa
