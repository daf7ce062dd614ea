/- Contracts of package state (4): Good, Keep. -/
import Derived.Test.YtcbklolfibdffaaSt3
namespace Go.Proofs.Ytcbklolfibdffaa
open Go.RowKit
set_option maxRecDepth 100000
def inBox (S : Nat → Int) (i : Nat) : Bool := decide (-(boxF i) ≤ S i) && decide (S i ≤ boxF i)
def boxQ (S : Nat → Int) : Nat → Bool | 0 => true | n + 1 => boxQ S n && inBox S n
def goodB (S : Nat → Int) : Bool := boxQ S 24 && unitB S
theorem boxQ_iff {S : Nat → Int} : ∀ {n : Nat}, boxQ S n = true ↔ ∀ i, i < n → -(boxF i) ≤ S i ∧ S i ≤ boxF i
  | 0 => by simp [boxQ]
  | n + 1 => by
    simp only [boxQ, Bool.and_eq_true, boxQ_iff, inBox, decide_eq_true_eq]
    constructor
    · rintro ⟨h, h1⟩ i hi
      by_cases e : i = n
      · subst e; exact h1
      · exact h i (by omega)
    · intro h
      exact ⟨fun i hi => h i (by omega), h n (by omega)⟩
theorem boxQ_no {S : Nat → Int} {n : Nat} (h : boxQ S n = false) : ∀ m, n ≤ m → boxQ S m = false := by
  intro m hm
  induction m with
  | zero => have : n = 0 := by omega
            subst this; exact h
  | succ m ih =>
    by_cases e : n = m + 1
    · subst e; exact h
    · simp [boxQ, ih (by omega)]
set_option maxHeartbeats 2000000 in
theorem sgood_any (S : Nat → Int) (w : World) : Calls Try.prog 13 #[.agg (arrv 24 S)] w fun e w' => e = .returned (.bool (goodB S)) ∧ Below w.heap.size w w' := by
  have P0 : Blk (w.alloc (.cells (arrv 24 S) 27)) w.heap.size 27 24 S := Blk.new w _ 24 _
  have P0 := Lib.hid P0
  have B0 := Lib.hid (show Below w.heap.size w (w.alloc (.cells (arrv 24 S) 27)) by (repeat (first | with_reducible exact Below.refl _ _ | with_reducible apply Below.drew | (with_reducible refine below_drewN ?_ _) | (with_reducible refine Below.alloc ?_ (by (try simp) <;> omega) _) | (with_reducible refine Below.setCell ?_ (by (try simp) <;> omega) _))))
  go_enter Try.func13, Try.ntmps13
  go_upto_region 1 with fail
  generalize w.alloc (.cells (arrv 24 S) 27) = W0 at *
  go_wp2_with fail
  refine (bounds_any _).mono ?_; rintro e w1 ⟨rfl, hb1⟩
  have P1 := Lib.hid (P0.out.below hb1)
  have B1 := Lib.hid (Below.after B0.out hb1)
  clear hb1 P0 B0
  go_wp2_with fail
  go_loopw [6] (fun i wr => ∃ k : Nat, k ≤ 24 ∧ i = .int .i64 k ∧ Hid (boxQ S k = true ∧ Below w.heap.size w wr ∧ Blk wr w.heap.size 27 24 S)) (fun i _ => 24 - (intOf i).toNat)
  case atStart => exact ⟨0, by omega, rfl, rfl, B1.out, P1.out⟩
  case round =>
    obtain ⟨k, hk, rfl, R⟩ := hrel
    by_cases hlt : k < 24
    · have d1 : decide ((k : Int) < 24) = true := by simp; omega
      go_upto_region 3 with fail
      refine wp_region_lit ?_
      refine wpList_val (v := ?_) rfl ?_ ?_
      rotate_left
      · (go_simp; (try (first | with_reducible rfl | (constructor <;> with_reducible rfl))))
      (try simp only [Act.put, List.setIfInBounds_toArray, List.set_cons_zero, List.set_cons_succ])
      refine wpList_val (v := ?_) rfl ?_ ?_
      rotate_left
      · refine Eq.trans (run_index_vec Try.underlying29 (.tmp 5) (.tmp 6) (by rfl) (by rfl) k (by rfl) hlt) ?_; with_reducible rfl
      (try simp only [Act.put, List.setIfInBounds_toArray, List.set_cons_zero, List.set_cons_succ])
      refine wpList_val (v := ?_) rfl ?_ ?_
      rotate_left
      · (go_simp; (try (first | with_reducible rfl | (constructor <;> with_reducible rfl))))
      (try simp only [Act.put, List.setIfInBounds_toArray, List.set_cons_zero, List.set_cons_succ])
      refine wpList_val (v := ?_) rfl ?_ ?_
      rotate_left
      · (go_simp; (try (first | with_reducible rfl | (constructor <;> with_reducible rfl))))
      (try simp only [Act.put, List.setIfInBounds_toArray, List.set_cons_zero, List.set_cons_succ])
      refine wpList_nil ?_
      have hM := boxF_bd k
      have hin : inBox S k = (decide (-(boxF k) ≤ S k) && decide (S k ≤ boxF k)) := rfl
      obtain ⟨M, hMe⟩ : ∃ M, boxF k = M := ⟨_, rfl⟩
      rw [hMe] at hM hin ⊢
      have hneg := neg_in M (by omega)
      have b0 := R.out.2.2.cell (i := k) hlt
      have k0 : (0 : Int) ≤ (k : Int) := Int.natCast_nonneg _
      have k1 : (k : Int) < 24 := by omega
      obtain ⟨x, hx⟩ : ∃ x, S k = x := ⟨_, rfl⟩
      rw [hx] at b0 hin
      by_cases h1 : M < x
      · have e1 : decide (M < x) = true := by simpa using h1
        have NO := Lib.hid (show goodB S = false by unfold goodB; rw [boxQ_no (n := k + 1) (by simp only [boxQ]; rw [hin, show decide (x ≤ M) = false by simp; omega, Bool.and_false, Bool.and_false]) 24 (by omega), Bool.false_and])
        clear hin hx hMe hM h1
        go_wp2_with fail
        go_ret
        exact ⟨by rw [NO.out]; rfl, R.out.2.1⟩
      · have e1 : decide (M < x) = false := by simpa using h1
        by_cases h2 : x < -M
        · have e2 : decide (x < -M) = true := by simpa using h2
          have NO := Lib.hid (show goodB S = false by unfold goodB; rw [boxQ_no (n := k + 1) (by simp only [boxQ]; rw [hin, show decide (-M ≤ x) = false by simp; omega, Bool.false_and, Bool.and_false]) 24 (by omega), Bool.false_and])
          clear hin hx hMe hM h1 h2
          go_wp2_with fail
          go_ret
          exact ⟨by rw [NO.out]; rfl, R.out.2.1⟩
        · have e2 : decide (x < -M) = false := by simpa using h2
          have OK := Lib.hid (show boxQ S (k + 1) = true by simp only [boxQ]; rw [R.out.1, hin, show decide (x ≤ M) = true by simp; omega, show decide (-M ≤ x) = true by simp; omega]; rfl)
          clear hin hx hMe hM h1 h2
          go_wp2_with fail
          go_roundw
          case rel => exact ⟨k + 1, by omega, by go_num, OK.out, R.out.2.1, R.out.2.2⟩
          case measure => simp [intOf]; omega
    · have hk24 : k = 24 := by omega
      subst hk24
      rw [show ((24 : Nat) : Int) = 24 from rfl]
      have P2 := R.out.2.2
      have B2 := Lib.hid R.out.2.1
      have OK := Lib.hid (show goodB S = unitB S by unfold goodB; rw [R.out.1, Bool.true_and])
      clear R hlt hk P1 B1
      go_wp2_with (first | (refine wpList_load_row rfl 27 _ rfl (w.heap.size) rfl 27 _ (0, 0) _ (P2) Try.underlying27 rfl (ist.trans (by rw [arrv_size])) ?_) | (go_at_call 14; (refine (att_any S _).mono ?_); rintro e w3 ⟨rfl, hb3⟩; have B3 := Lib.hid (Below.after B2.out hb3); clear hb3) | (go_at_call 16; (refine (sunit_any S _).mono ?_); rintro e w4 ⟨rfl, hb4⟩; have B4 := Lib.hid (Below.after B3.out hb4); clear hb4))
      go_ret
      exact ⟨by rw [OK.out]; rfl, B4.out⟩
end Go.Proofs.Ytcbklolfibdffaa
