/- Contracts of the program's functions and plain laws, part 9: they hold for all arguments. -/
import Derived.Test.YtcibndlpnfikhaaQ08
import Derived.Test.YtcibndlpnfikhaaQ05
import Derived.Test.YtcibndlpnfikhaaQ03
import Derived.Test.YtcibndlpnfikhaaQ02
import Derived.Test.YtcibndlpnfikhaaProg
import Derived.Deep.Upon
import Derived.OpenShut
import Derived.ProofKit
import Derived.Carry
/- Contracts of the reference's estimate (2): Good, Keep, Add. -/
namespace Go.Proofs.Ytcibndlpnfikhaa
open Go.RowKit
set_option maxRecDepth 100000
set_option maxHeartbeats 4000000 in
theorem rgood16_any (S : Nat → Int) (w : World) : Calls Try.prog 6 #[.agg (arrv 24 S)] w fun e w' => e = .returned (.bool (goodB S)) ∧ Below w.heap.size w w' := by
  have P0 := Lib.hid (Blk.new w 23 24 S)
  have B0 := Lib.hid (show Below w.heap.size w (w.alloc (.cells (arrv 24 S) 23)) by (repeat (first | with_reducible exact Below.refl _ _ | with_reducible apply Below.drew | (with_reducible refine below_drewN ?_ _) | (with_reducible refine Below.alloc ?_ (by (try simp) <;> omega) _) | (with_reducible refine Below.setCell ?_ (by (try simp) <;> omega) _))))
  go_enter Try.func6, Try.ntmps6
  go_upto_region 1 with fail
  generalize w.alloc (.cells (arrv 24 S) 23) = W0 at *
  go_wp2_with fail
  go_loopw [3] (fun i wr => ∃ k : Nat, k ≤ 24 ∧ i = .int .i64 k ∧ Hid (boxQ S k = true ∧ Below w.heap.size w wr ∧ Blk wr w.heap.size 23 24 S)) (fun i _ => 24 - (intOf i).toNat)
  case atStart => exact ⟨0, by omega, rfl, Lib.hid ⟨rfl, B0.out, P0.out⟩⟩
  case round =>
    obtain ⟨k, hk, rfl, R⟩ := hrel
    clear P0 B0
    by_cases hlt : k < 24
    · have d1 : decide ((k : Int) < 24) = true := by simp; omega
      have hM := boxF_bd k
      have hin : inBox S k = (decide (-(boxF k) ≤ S k) && decide (S k ≤ boxF k)) := rfl
      have BC := Lib.hid (fun (x : World) => rbound_any k x hlt)
      obtain ⟨M, hMe⟩ : ∃ M, boxF k = M := ⟨_, rfl⟩
      rw [hMe] at hM hin BC
      have hneg := neg_in M (by omega)
      have b0 := R.out.2.2.cell (i := k) hlt
      have k0 : (0 : Int) ≤ (k : Int) := Int.natCast_nonneg _
      have k1 : (k : Int) < 24 := by omega
      obtain ⟨x, hx⟩ : ∃ x, S k = x := ⟨_, rfl⟩
      rw [hx] at b0 hin
      go_upto_region 4 with fail
      by_cases h2 : x < -M
      · have e2 : decide (x < -M) = true := by simpa using h2
        have NO := Lib.hid (show goodB S = false by unfold goodB; rw [boxQ_no (n := k + 1) (by simp only [boxQ]; rw [hin, show decide (-M ≤ x) = false by simp; omega, Bool.false_and, Bool.and_false]) 24 (by omega), Bool.false_and])
        clear hin hx hMe hM h2
        refine wp_region_M (fun w' => w'.cell? ⟨w.heap.size, k, none⟩ = some (.int .i64 x)) 14 (by kernel_rfl) ?_ (fun hHeld => ?_)
        · exact b0
        refine wpAnyM_takeX [1, 2, 6, 7, 8, 9, 10, 11, 12, 13, 14] 0 (v := ?_) rfl (by kernel_rfl) (fun _ _ _ h => h) (Or.inl ⟨by rfl, ?_⟩) (by assumption) ?_
        rotate_left
        · (intro wx hSw; (try dsimp only at hSw); go_simp; (try with_reducible rfl))
        (try simp only [Act.put, List.setIfInBounds_toArray, List.set_cons_zero, List.set_cons_succ])
        refine wpAnyM_takeX [2, 6, 7, 8, 9, 10, 11, 12, 13, 14] 1 (v := ?_) rfl (by kernel_rfl) (fun _ _ _ h => h) (Or.inl ⟨by rfl, ?_⟩) (by assumption) ?_
        rotate_left
        · (intro wx hSw; (try dsimp only at hSw); go_simp; (try with_reducible rfl))
        (try simp only [Act.put, List.setIfInBounds_toArray, List.set_cons_zero, List.set_cons_succ])
        refine wpAnyM_takeX [6, 7, 8, 9, 10, 11, 12, 13, 14] 2 (v := ?_) rfl (by kernel_rfl) (fun _ _ _ h => h) (Or.inl ⟨by rfl, ?_⟩) (by assumption) ?_
        rotate_left
        · (intro wx hSw; (try dsimp only at hSw); go_simp; (try with_reducible rfl))
        (try simp only [Act.put, List.setIfInBounds_toArray, List.set_cons_zero, List.set_cons_succ])
        refine wpAnyM_takeX [4, 5, 6, 7, 8, 9, 10, 11, 12, 13, 14] 3 (v := ?_) rfl (by kernel_rfl) (fun _ _ _ h => h) (Or.inl ⟨by rfl, ?_⟩) (by assumption) ?_
        rotate_left
        · (intro wx hSw; (try dsimp only at hSw); go_simp; (try with_reducible rfl))
        (try simp only [Act.put, List.setIfInBounds_toArray, List.set_cons_zero, List.set_cons_succ])
        refine wpAnyM_oneS 4 rfl (by kernel_rfl) (fun K hK => ?_)
        go_simp
        (refine (BC.out _).mono ?_); rintro e w5 ⟨rfl, rfl⟩
        (try dsimp only)
        (try simp only [Act.put, List.setIfInBounds_toArray, List.set_cons_zero, List.set_cons_succ])
        clear hHeld
        refine hK.out _ _ ?_ (fun hHeld => ?_)
        · exact b0
        clear hK K
        (try simp only [Act.put, List.setIfInBounds_toArray, List.set_cons_zero, List.set_cons_succ])
        refine wpAnyM_takeX [6, 7, 8, 9, 10, 11, 12, 13, 14] 5 (v := ?_) rfl (by kernel_rfl) (fun _ _ _ h => h) (Or.inl ⟨by rfl, ?_⟩) (by assumption) ?_
        rotate_left
        · (intro wx hSw; go_simp; (try rw [hneg]); (try with_reducible rfl))
        (try simp only [Act.put, List.setIfInBounds_toArray, List.set_cons_zero, List.set_cons_succ])
        refine wpAnyM_takeX [7, 8, 9, 10, 11, 12, 13, 14] 6 (v := ?_) rfl (by kernel_rfl) (fun _ _ _ h => h) (Or.inl ⟨by rfl, ?_⟩) (by assumption) ?_
        rotate_left
        · (intro wx hSw; go_simp; (try simp only [e2]); (try with_reducible rfl))
        (try simp only [Act.put, List.setIfInBounds_toArray, List.set_cons_zero, List.set_cons_succ])
        refine wpAnyM_take 7 (v := ?_) rfl (by kernel_rfl) (fun _ _ _ h => h) (Or.inl ⟨by rfl, ?_⟩) (by assumption) ?_
        rotate_left
        · (intro wx hSw; (try dsimp only at hSw); go_simp; (try with_reducible rfl))
        (try simp only [Act.put, List.setIfInBounds_toArray, List.set_cons_zero, List.set_cons_succ])
        first | (refine wpAnyM_takeX [9, 10, 13, 14] 8 (v := ?_) rfl (by kernel_rfl) (fun _ _ _ h => h) (Or.inl ⟨by rfl, ?_⟩) (by assumption) ?_; rotate_left; focus ((intro wx hSw; (try dsimp only at hSw); go_simp; (try with_reducible rfl)))) | (refine wpAnyM_takeX [9, 10, 13, 14] 8 rfl (by kernel_rfl) (fun _ _ _ h => h) (Or.inr ⟨by rfl, rfl⟩) (by assumption) ?_)
        (try simp only [Act.put, List.setIfInBounds_toArray, List.set_cons_zero, List.set_cons_succ])
        first | (refine wpAnyM_takeX [10, 13, 14] 9 (v := ?_) rfl (by kernel_rfl) (fun _ _ _ h => h) (Or.inl ⟨by rfl, ?_⟩) (by assumption) ?_; rotate_left; focus ((intro wx hSw; (try dsimp only at hSw); go_simp; (try with_reducible rfl)))) | (refine wpAnyM_takeX [10, 13, 14] 9 rfl (by kernel_rfl) (fun _ _ _ h => h) (Or.inr ⟨by rfl, rfl⟩) (by assumption) ?_)
        (try simp only [Act.put, List.setIfInBounds_toArray, List.set_cons_zero, List.set_cons_succ])
        first | (refine wpAnyM_takeX [13, 14] 10 (v := ?_) rfl (by kernel_rfl) (fun _ _ _ h => h) (Or.inl ⟨by rfl, ?_⟩) (by assumption) ?_; rotate_left; focus ((intro wx hSw; (try dsimp only at hSw); go_simp; (try with_reducible rfl)))) | (refine wpAnyM_takeX [13, 14] 10 rfl (by kernel_rfl) (fun _ _ _ h => h) (Or.inr ⟨by rfl, rfl⟩) (by assumption) ?_)
        (try simp only [Act.put, List.setIfInBounds_toArray, List.set_cons_zero, List.set_cons_succ])
        first | (refine wpAnyM_takeX [12, 13, 14] 11 (v := ?_) rfl (by kernel_rfl) (fun _ _ _ h => h) (Or.inl ⟨by rfl, ?_⟩) (by assumption) ?_; rotate_left; focus ((intro wx hSw; (try dsimp only at hSw); go_simp; (try with_reducible rfl)))) | (refine wpAnyM_takeX [12, 13, 14] 11 rfl (by kernel_rfl) (fun _ _ _ h => h) (Or.inr ⟨by rfl, rfl⟩) (by assumption) ?_)
        (try simp only [Act.put, List.setIfInBounds_toArray, List.set_cons_zero, List.set_cons_succ])
        refine wpAnyM_oneS 12 rfl (by kernel_rfl) (fun K hK => ?_)
        go_simp
        skip
        (try dsimp only)
        (try simp only [Act.put, List.setIfInBounds_toArray, List.set_cons_zero, List.set_cons_succ])
        clear hHeld
        refine hK.out _ _ ?_ (fun hHeld => ?_)
        · exact b0
        clear hK K
        (try simp only [Act.put, List.setIfInBounds_toArray, List.set_cons_zero, List.set_cons_succ])
        first | (refine wpAnyM_take 13 (v := ?_) rfl (by kernel_rfl) (fun _ _ _ h => h) (Or.inl ⟨by rfl, ?_⟩) (by assumption) ?_; rotate_left; focus ((intro wx hSw; (try dsimp only at hSw); go_simp; (try with_reducible rfl)))) | (refine wpAnyM_take 13 rfl (by kernel_rfl) (fun _ _ _ h => h) (Or.inr ⟨by rfl, rfl⟩) (by assumption) ?_)
        (try simp only [Act.put, List.setIfInBounds_toArray, List.set_cons_zero, List.set_cons_succ])
        refine wpAnyM_one 14 rfl (by kernel_rfl) (fun K hK => ?_)
        go_simp
        refine hK.out _ _ (.inl (by kernel_rfl)) (fun _ => ?_)
        clear hK K
        (try simp only [Act.put, List.setIfInBounds_toArray, List.set_cons_zero, List.set_cons_succ])
        refine wpAnyM_done (by kernel_rfl) ?_ _
        (try clear hHeld)
        go_wp2_with fail
        go_ret
        exact ⟨by rw [NO.out]; rfl, R.out.2.1.drew⟩
      · have e2 : decide (x < -M) = false := by simpa using h2
        by_cases h1 : M < x
        · have e1 : decide (M < x) = true := by simpa using h1
          have NO := Lib.hid (show goodB S = false by unfold goodB; rw [boxQ_no (n := k + 1) (by simp only [boxQ]; rw [hin, show decide (x ≤ M) = false by simp; omega, Bool.and_false, Bool.and_false]) 24 (by omega), Bool.false_and])
          clear hin hx hMe hM h1 h2
          refine wp_region_M (fun w' => w'.cell? ⟨w.heap.size, k, none⟩ = some (.int .i64 x)) 14 (by kernel_rfl) ?_ (fun hHeld => ?_)
          · exact b0
          refine wpAnyM_takeX [1, 2, 6, 7, 8, 9, 10, 11, 12, 13, 14] 0 (v := ?_) rfl (by kernel_rfl) (fun _ _ _ h => h) (Or.inl ⟨by rfl, ?_⟩) (by assumption) ?_
          rotate_left
          · (intro wx hSw; (try dsimp only at hSw); go_simp; (try with_reducible rfl))
          (try simp only [Act.put, List.setIfInBounds_toArray, List.set_cons_zero, List.set_cons_succ])
          refine wpAnyM_takeX [2, 6, 7, 8, 9, 10, 11, 12, 13, 14] 1 (v := ?_) rfl (by kernel_rfl) (fun _ _ _ h => h) (Or.inl ⟨by rfl, ?_⟩) (by assumption) ?_
          rotate_left
          · (intro wx hSw; (try dsimp only at hSw); go_simp; (try with_reducible rfl))
          (try simp only [Act.put, List.setIfInBounds_toArray, List.set_cons_zero, List.set_cons_succ])
          refine wpAnyM_takeX [6, 7, 8, 9, 10, 11, 12, 13, 14] 2 (v := ?_) rfl (by kernel_rfl) (fun _ _ _ h => h) (Or.inl ⟨by rfl, ?_⟩) (by assumption) ?_
          rotate_left
          · (intro wx hSw; (try dsimp only at hSw); go_simp; (try with_reducible rfl))
          (try simp only [Act.put, List.setIfInBounds_toArray, List.set_cons_zero, List.set_cons_succ])
          refine wpAnyM_takeX [4, 5, 6, 7, 8, 9, 10, 11, 12, 13, 14] 3 (v := ?_) rfl (by kernel_rfl) (fun _ _ _ h => h) (Or.inl ⟨by rfl, ?_⟩) (by assumption) ?_
          rotate_left
          · (intro wx hSw; (try dsimp only at hSw); go_simp; (try with_reducible rfl))
          (try simp only [Act.put, List.setIfInBounds_toArray, List.set_cons_zero, List.set_cons_succ])
          refine wpAnyM_oneS 4 rfl (by kernel_rfl) (fun K hK => ?_)
          go_simp
          (refine (BC.out _).mono ?_); rintro e w5 ⟨rfl, rfl⟩
          (try dsimp only)
          (try simp only [Act.put, List.setIfInBounds_toArray, List.set_cons_zero, List.set_cons_succ])
          clear hHeld
          refine hK.out _ _ ?_ (fun hHeld => ?_)
          · exact b0
          clear hK K
          (try simp only [Act.put, List.setIfInBounds_toArray, List.set_cons_zero, List.set_cons_succ])
          refine wpAnyM_takeX [6, 7, 8, 9, 10, 11, 12, 13, 14] 5 (v := ?_) rfl (by kernel_rfl) (fun _ _ _ h => h) (Or.inl ⟨by rfl, ?_⟩) (by assumption) ?_
          rotate_left
          · (intro wx hSw; go_simp; (try rw [hneg]); (try with_reducible rfl))
          (try simp only [Act.put, List.setIfInBounds_toArray, List.set_cons_zero, List.set_cons_succ])
          refine wpAnyM_takeX [7, 8, 9, 10, 11, 12, 13, 14] 6 (v := ?_) rfl (by kernel_rfl) (fun _ _ _ h => h) (Or.inl ⟨by rfl, ?_⟩) (by assumption) ?_
          rotate_left
          · (intro wx hSw; go_simp; (try simp only [e2]); (try with_reducible rfl))
          (try simp only [Act.put, List.setIfInBounds_toArray, List.set_cons_zero, List.set_cons_succ])
          refine wpAnyM_take 7 (v := ?_) rfl (by kernel_rfl) (fun _ _ _ h => h) (Or.inl ⟨by rfl, ?_⟩) (by assumption) ?_
          rotate_left
          · (intro wx hSw; (try dsimp only at hSw); go_simp; (try with_reducible rfl))
          (try simp only [Act.put, List.setIfInBounds_toArray, List.set_cons_zero, List.set_cons_succ])
          first | (refine wpAnyM_takeX [9, 10, 13, 14] 8 (v := ?_) rfl (by kernel_rfl) (fun _ _ _ h => h) (Or.inl ⟨by rfl, ?_⟩) (by assumption) ?_; rotate_left; focus ((intro wx hSw; (try dsimp only at hSw); go_simp; (try with_reducible rfl)))) | (refine wpAnyM_takeX [9, 10, 13, 14] 8 rfl (by kernel_rfl) (fun _ _ _ h => h) (Or.inr ⟨by rfl, rfl⟩) (by assumption) ?_)
          (try simp only [Act.put, List.setIfInBounds_toArray, List.set_cons_zero, List.set_cons_succ])
          first | (refine wpAnyM_takeX [10, 13, 14] 9 (v := ?_) rfl (by kernel_rfl) (fun _ _ _ h => h) (Or.inl ⟨by rfl, ?_⟩) (by assumption) ?_; rotate_left; focus ((intro wx hSw; (try dsimp only at hSw); go_simp; (try with_reducible rfl)))) | (refine wpAnyM_takeX [10, 13, 14] 9 rfl (by kernel_rfl) (fun _ _ _ h => h) (Or.inr ⟨by rfl, rfl⟩) (by assumption) ?_)
          (try simp only [Act.put, List.setIfInBounds_toArray, List.set_cons_zero, List.set_cons_succ])
          first | (refine wpAnyM_takeX [13, 14] 10 (v := ?_) rfl (by kernel_rfl) (fun _ _ _ h => h) (Or.inl ⟨by rfl, ?_⟩) (by assumption) ?_; rotate_left; focus ((intro wx hSw; (try dsimp only at hSw); go_simp; (try with_reducible rfl)))) | (refine wpAnyM_takeX [13, 14] 10 rfl (by kernel_rfl) (fun _ _ _ h => h) (Or.inr ⟨by rfl, rfl⟩) (by assumption) ?_)
          (try simp only [Act.put, List.setIfInBounds_toArray, List.set_cons_zero, List.set_cons_succ])
          first | (refine wpAnyM_takeX [12, 13, 14] 11 (v := ?_) rfl (by kernel_rfl) (fun _ _ _ h => h) (Or.inl ⟨by rfl, ?_⟩) (by assumption) ?_; rotate_left; focus ((intro wx hSw; (try dsimp only at hSw); go_simp; (try with_reducible rfl)))) | (refine wpAnyM_takeX [12, 13, 14] 11 rfl (by kernel_rfl) (fun _ _ _ h => h) (Or.inr ⟨by rfl, rfl⟩) (by assumption) ?_)
          (try simp only [Act.put, List.setIfInBounds_toArray, List.set_cons_zero, List.set_cons_succ])
          refine wpAnyM_oneS 12 rfl (by kernel_rfl) (fun K hK => ?_)
          go_simp
          (refine (BC.out _).mono ?_); rintro e w6 ⟨rfl, rfl⟩
          (try dsimp only)
          (try simp only [Act.put, List.setIfInBounds_toArray, List.set_cons_zero, List.set_cons_succ])
          clear hHeld
          refine hK.out _ _ ?_ (fun hHeld => ?_)
          · exact b0
          clear hK K
          (try simp only [Act.put, List.setIfInBounds_toArray, List.set_cons_zero, List.set_cons_succ])
          first | (refine wpAnyM_take 13 (v := ?_) rfl (by kernel_rfl) (fun _ _ _ h => h) (Or.inl ⟨by rfl, ?_⟩) (by assumption) ?_; rotate_left; focus ((intro wx hSw; go_simp; (try simp only [e1]); (try with_reducible rfl)))) | (refine wpAnyM_take 13 rfl (by kernel_rfl) (fun _ _ _ h => h) (Or.inr ⟨by rfl, rfl⟩) (by assumption) ?_)
          (try simp only [Act.put, List.setIfInBounds_toArray, List.set_cons_zero, List.set_cons_succ])
          refine wpAnyM_one 14 rfl (by kernel_rfl) (fun K hK => ?_)
          go_simp
          refine hK.out _ _ (.inl (by kernel_rfl)) (fun _ => ?_)
          clear hK K
          (try simp only [Act.put, List.setIfInBounds_toArray, List.set_cons_zero, List.set_cons_succ])
          refine wpAnyM_done (by kernel_rfl) ?_ _
          (try clear hHeld)
          go_wp2_with fail
          go_ret
          exact ⟨by rw [NO.out]; rfl, R.out.2.1.drew⟩
        · have e1 : decide (M < x) = false := by simpa using h1
          have OK := Lib.hid (show boxQ S (k + 1) = true by simp only [boxQ]; rw [R.out.1, hin, show decide (x ≤ M) = true by simp; omega, show decide (-M ≤ x) = true by simp; omega]; rfl)
          clear hin hx hMe hM h1 h2
          refine wp_region_M (fun w' => w'.cell? ⟨w.heap.size, k, none⟩ = some (.int .i64 x)) 14 (by kernel_rfl) ?_ (fun hHeld => ?_)
          · exact b0
          refine wpAnyM_takeX [1, 2, 6, 7, 8, 9, 10, 11, 12, 13, 14] 0 (v := ?_) rfl (by kernel_rfl) (fun _ _ _ h => h) (Or.inl ⟨by rfl, ?_⟩) (by assumption) ?_
          rotate_left
          · (intro wx hSw; (try dsimp only at hSw); go_simp; (try with_reducible rfl))
          (try simp only [Act.put, List.setIfInBounds_toArray, List.set_cons_zero, List.set_cons_succ])
          refine wpAnyM_takeX [2, 6, 7, 8, 9, 10, 11, 12, 13, 14] 1 (v := ?_) rfl (by kernel_rfl) (fun _ _ _ h => h) (Or.inl ⟨by rfl, ?_⟩) (by assumption) ?_
          rotate_left
          · (intro wx hSw; (try dsimp only at hSw); go_simp; (try with_reducible rfl))
          (try simp only [Act.put, List.setIfInBounds_toArray, List.set_cons_zero, List.set_cons_succ])
          refine wpAnyM_takeX [6, 7, 8, 9, 10, 11, 12, 13, 14] 2 (v := ?_) rfl (by kernel_rfl) (fun _ _ _ h => h) (Or.inl ⟨by rfl, ?_⟩) (by assumption) ?_
          rotate_left
          · (intro wx hSw; (try dsimp only at hSw); go_simp; (try with_reducible rfl))
          (try simp only [Act.put, List.setIfInBounds_toArray, List.set_cons_zero, List.set_cons_succ])
          refine wpAnyM_takeX [4, 5, 6, 7, 8, 9, 10, 11, 12, 13, 14] 3 (v := ?_) rfl (by kernel_rfl) (fun _ _ _ h => h) (Or.inl ⟨by rfl, ?_⟩) (by assumption) ?_
          rotate_left
          · (intro wx hSw; (try dsimp only at hSw); go_simp; (try with_reducible rfl))
          (try simp only [Act.put, List.setIfInBounds_toArray, List.set_cons_zero, List.set_cons_succ])
          refine wpAnyM_oneS 4 rfl (by kernel_rfl) (fun K hK => ?_)
          go_simp
          (refine (BC.out _).mono ?_); rintro e w5 ⟨rfl, rfl⟩
          (try dsimp only)
          (try simp only [Act.put, List.setIfInBounds_toArray, List.set_cons_zero, List.set_cons_succ])
          clear hHeld
          refine hK.out _ _ ?_ (fun hHeld => ?_)
          · exact b0
          clear hK K
          (try simp only [Act.put, List.setIfInBounds_toArray, List.set_cons_zero, List.set_cons_succ])
          refine wpAnyM_takeX [6, 7, 8, 9, 10, 11, 12, 13, 14] 5 (v := ?_) rfl (by kernel_rfl) (fun _ _ _ h => h) (Or.inl ⟨by rfl, ?_⟩) (by assumption) ?_
          rotate_left
          · (intro wx hSw; go_simp; (try rw [hneg]); (try with_reducible rfl))
          (try simp only [Act.put, List.setIfInBounds_toArray, List.set_cons_zero, List.set_cons_succ])
          refine wpAnyM_takeX [7, 8, 9, 10, 11, 12, 13, 14] 6 (v := ?_) rfl (by kernel_rfl) (fun _ _ _ h => h) (Or.inl ⟨by rfl, ?_⟩) (by assumption) ?_
          rotate_left
          · (intro wx hSw; go_simp; (try simp only [e2]); (try with_reducible rfl))
          (try simp only [Act.put, List.setIfInBounds_toArray, List.set_cons_zero, List.set_cons_succ])
          refine wpAnyM_take 7 (v := ?_) rfl (by kernel_rfl) (fun _ _ _ h => h) (Or.inl ⟨by rfl, ?_⟩) (by assumption) ?_
          rotate_left
          · (intro wx hSw; (try dsimp only at hSw); go_simp; (try with_reducible rfl))
          (try simp only [Act.put, List.setIfInBounds_toArray, List.set_cons_zero, List.set_cons_succ])
          first | (refine wpAnyM_takeX [9, 10, 13, 14] 8 (v := ?_) rfl (by kernel_rfl) (fun _ _ _ h => h) (Or.inl ⟨by rfl, ?_⟩) (by assumption) ?_; rotate_left; focus ((intro wx hSw; (try dsimp only at hSw); go_simp; (try with_reducible rfl)))) | (refine wpAnyM_takeX [9, 10, 13, 14] 8 rfl (by kernel_rfl) (fun _ _ _ h => h) (Or.inr ⟨by rfl, rfl⟩) (by assumption) ?_)
          (try simp only [Act.put, List.setIfInBounds_toArray, List.set_cons_zero, List.set_cons_succ])
          first | (refine wpAnyM_takeX [10, 13, 14] 9 (v := ?_) rfl (by kernel_rfl) (fun _ _ _ h => h) (Or.inl ⟨by rfl, ?_⟩) (by assumption) ?_; rotate_left; focus ((intro wx hSw; (try dsimp only at hSw); go_simp; (try with_reducible rfl)))) | (refine wpAnyM_takeX [10, 13, 14] 9 rfl (by kernel_rfl) (fun _ _ _ h => h) (Or.inr ⟨by rfl, rfl⟩) (by assumption) ?_)
          (try simp only [Act.put, List.setIfInBounds_toArray, List.set_cons_zero, List.set_cons_succ])
          first | (refine wpAnyM_takeX [13, 14] 10 (v := ?_) rfl (by kernel_rfl) (fun _ _ _ h => h) (Or.inl ⟨by rfl, ?_⟩) (by assumption) ?_; rotate_left; focus ((intro wx hSw; (try dsimp only at hSw); go_simp; (try with_reducible rfl)))) | (refine wpAnyM_takeX [13, 14] 10 rfl (by kernel_rfl) (fun _ _ _ h => h) (Or.inr ⟨by rfl, rfl⟩) (by assumption) ?_)
          (try simp only [Act.put, List.setIfInBounds_toArray, List.set_cons_zero, List.set_cons_succ])
          first | (refine wpAnyM_takeX [12, 13, 14] 11 (v := ?_) rfl (by kernel_rfl) (fun _ _ _ h => h) (Or.inl ⟨by rfl, ?_⟩) (by assumption) ?_; rotate_left; focus ((intro wx hSw; (try dsimp only at hSw); go_simp; (try with_reducible rfl)))) | (refine wpAnyM_takeX [12, 13, 14] 11 rfl (by kernel_rfl) (fun _ _ _ h => h) (Or.inr ⟨by rfl, rfl⟩) (by assumption) ?_)
          (try simp only [Act.put, List.setIfInBounds_toArray, List.set_cons_zero, List.set_cons_succ])
          refine wpAnyM_oneS 12 rfl (by kernel_rfl) (fun K hK => ?_)
          go_simp
          (refine (BC.out _).mono ?_); rintro e w6 ⟨rfl, rfl⟩
          (try dsimp only)
          (try simp only [Act.put, List.setIfInBounds_toArray, List.set_cons_zero, List.set_cons_succ])
          clear hHeld
          refine hK.out _ _ ?_ (fun hHeld => ?_)
          · exact b0
          clear hK K
          (try simp only [Act.put, List.setIfInBounds_toArray, List.set_cons_zero, List.set_cons_succ])
          first | (refine wpAnyM_take 13 (v := ?_) rfl (by kernel_rfl) (fun _ _ _ h => h) (Or.inl ⟨by rfl, ?_⟩) (by assumption) ?_; rotate_left; focus ((intro wx hSw; go_simp; (try simp only [e1]); (try with_reducible rfl)))) | (refine wpAnyM_take 13 rfl (by kernel_rfl) (fun _ _ _ h => h) (Or.inr ⟨by rfl, rfl⟩) (by assumption) ?_)
          (try simp only [Act.put, List.setIfInBounds_toArray, List.set_cons_zero, List.set_cons_succ])
          refine wpAnyM_one 14 rfl (by kernel_rfl) (fun K hK => ?_)
          go_simp
          refine hK.out _ _ (.inl (by kernel_rfl)) (fun _ => ?_)
          clear hK K
          (try simp only [Act.put, List.setIfInBounds_toArray, List.set_cons_zero, List.set_cons_succ])
          refine wpAnyM_done (by kernel_rfl) ?_ _
          (try clear hHeld)
          go_wp2_with fail
          go_roundw
          case rel => exact ⟨k + 1, by omega, by go_num, Lib.hid ⟨OK.out, R.out.2.1.drew, R.out.2.2⟩⟩
          case measure => simp [intOf]; omega
    · have hk24 : k = 24 := by omega
      subst hk24
      rw [show ((24 : Nat) : Int) = 24 from rfl]
      have P2 := R.out.2.2
      have B2 := Lib.hid R.out.2.1
      have OK := Lib.hid (show goodB S = unitB S by unfold goodB; rw [R.out.1, Bool.true_and])
      clear R hlt hk
      go_wp2_with (first | (refine wpList_load_row rfl 23 _ rfl (w.heap.size) rfl 23 _ (0, 0) _ (P2) Try.underlying23 rfl (ist.trans (by rw [arrv_size])) ?_) | (go_at_call 8; (refine (ratt_any S _).mono ?_); rintro e w3 ⟨rfl, hb3⟩; have B3 := Lib.hid (Below.after B2.out hb3); clear hb3) | (go_at_call 20; (refine (rnear_any S _).mono ?_); rintro e w4 ⟨rfl, hb4⟩; have B4 := Lib.hid (Below.after B3.out hb4); clear hb4))
      go_ret
      exact ⟨by rw [OK.out]; rfl, B4.out⟩
set_option maxHeartbeats 8000000 in
theorem rkeep16_any (c : Addr) (h : Bool) (S : Nat → Int) (w : World) (hc : w.cell? c = some (.bool h)) (hf : w.frozen? c = false) :
    Calls Try.prog 14 #[.pointer (some c), .agg (arrv 24 S)] w fun e w' => e = .returned (.agg (arrv 24 (keepF S))) ∧ Upd c (h || keepH S) w w' := by
  have hcb := World.block_lt_of_cell? w c hc
  have S0 : Hid (KpR c h S w ((w.alloc (.cells (arrv 24 S) 23)).alloc (.cells #[.int .i64 0, .int .i64 0, .int .i64 0, .int .i64 0, .int .i64 0, .int .i64 0, .int .i64 0, .int .i64 0, .int .i64 0, .int .i64 0, .int .i64 0, .int .i64 0, .int .i64 0, .int .i64 0, .int .i64 0, .int .i64 0, .int .i64 0, .int .i64 0, .int .i64 0, .int .i64 0, .int .i64 0, .int .i64 0, .int .i64 0, .int .i64 0] 23))) := Lib.hid
    ⟨Upd.then (Upd.refl hc) (by (repeat (first | with_reducible exact Below.refl _ _ | with_reducible apply Below.drew | (with_reducible refine below_drewN ?_ _) | (with_reducible refine Below.alloc ?_ (by (try simp) <;> omega) _) | (with_reducible refine Below.setCell ?_ (by (try simp) <;> omega) _)))), (Blk.new w _ 24 _).alloc _, by rw [zvec24]; exact Blk.new1 w _ _ 24 _⟩
  have HC := Lib.hid hc
  have HF := Lib.hid hf
  clear hc hf
  go_enter Try.func14, Try.ntmps14
  go_upto_region 1 with fail
  generalize (w.alloc (.cells (arrv 24 S) 23)).alloc (.cells #[.int .i64 0, .int .i64 0, .int .i64 0, .int .i64 0, .int .i64 0, .int .i64 0, .int .i64 0, .int .i64 0, .int .i64 0, .int .i64 0, .int .i64 0, .int .i64 0, .int .i64 0, .int .i64 0, .int .i64 0, .int .i64 0, .int .i64 0, .int .i64 0, .int .i64 0, .int .i64 0, .int .i64 0, .int .i64 0, .int .i64 0, .int .i64 0] 23) = W0 at *
  have P0 := S0.out.blk
  go_upto_region 2 with (first | (refine wpList_load_row rfl 23 _ rfl (w.heap.size) rfl 23 _ (0, 0) _ (P0) Try.underlying23 rfl (ist.trans (by rw [arrv_size])) ?_) | (go_at_call 8; (refine (ratt_any S _).mono ?_); rintro e w1 ⟨rfl, hb1⟩; have S1 := Lib.hid (S0.out.down hb1); have R1 : Blk (w1.alloc (.cells #[.int .i64 0, .int .i64 0, .int .i64 0, .int .i64 0] 30)) w1.heap.size 30 4 (fun _ => 0) := (by rw [zq4]; exact Blk.new _ _ 4 _); clear hb1) | (refine wpList_store_row rfl 30 _ _ rfl (w1.heap.size) _ rfl rfl 30 _ (R1) (irq.trans (by rw [arrv_size])) (by rw [arrv_size, arrv_size]) (oneCell_arrv _ _) ?_))
  have hq0 : w.heap.size + 1 < w1.heap.size := S1.out.res.lt
  have S2 := Lib.hid (S1.out.down (below_row ((Below.refl w1.heap.size w1).alloc (Nat.le_refl _) (.cells #[.int .i64 0, .int .i64 0, .int .i64 0, .int .i64 0] 30)) (Nat.le_refl _) (arrv 4 S)))
  have Q2 := Lib.hid (R1.setRow S)
  obtain ⟨bq, hbq⟩ : ∃ x, w1.heap.size = x := ⟨_, rfl⟩
  generalize (w1.alloc (.cells #[.int .i64 0, .int .i64 0, .int .i64 0, .int .i64 0] 30)).setRow w1.heap.size (arrv 4 S) = W2 at *
  rw [hbq] at Q2 hq0 ⊢
  clear R1 hbq S1 P0 S0
  have q2 := Q2.out
  by_cases hu : unitB S = true
  · go_upto_region 4 with (first | (refine wpList_load_row rfl 30 _ rfl (bq) rfl 30 _ (0, 0) _ (q2) Try.underlying30 rfl (irq.trans (by rw [arrv_size])) ?_) | (go_at_call 20; (refine (rnear_any S _).mono ?_); rintro e w3 ⟨rfl, hb3⟩; (rw [hu]); have S5 := Lib.hid (S2.out.down hb3); clear hb3))
    obtain ⟨T, hT⟩ : ∃ T, S = T := ⟨_, rfl⟩
    obtain ⟨H1, hH1⟩ : ∃ y, h = y := ⟨_, rfl⟩
    have E := Lib.hid (show keepF S = clmF T ∧ (h || keepH S) = (H1 || orB (clmP T) 20) by rw [← hT, ← hH1]; unfold keepF keepH keepI clmH; rw [if_pos hu, if_pos hu, Bool.false_or]; exact ⟨rfl, rfl⟩)
    have S6 : Hid (KpR c H1 T w w3) := by rw [← hT, ← hH1]; exact S5
    clear S5
    clear hT hH1 hu q2 Q2 S2
    go_wp2_with fail
    go_loopw [6] (fun i wr => ∃ k : Nat, k ≤ 20 ∧ i = .int .i64 ((4 + k : Nat) : Int) ∧ Hid (KpR c (H1 || orB (clmP T) k) (clmI T k) w wr)) (fun i _ => 24 - (intOf i).toNat)
    case atStart => exact ⟨0, by omega, rfl, Lib.hid (by rw [show (H1 || orB (clmP T) 0) = H1 from by simp [orB], show clmI T 0 = T from by funext i; simp only [clmI, clmF]; split <;> rfl]; exact S6.out)⟩
    case round =>
      obtain ⟨k, hk, rfl, R⟩ := hrel
      clear S6
      by_cases hlt : k < 20
      · obtain ⟨i, hi⟩ : ∃ i : Nat, 4 + k = i := ⟨_, rfl⟩
        rw [hi]
        have hi24 : i < 24 := by omega
        have d1 : decide ((i : Int) < 24) = true := by simp; omega
        have k0 : (0 : Int) ≤ (i : Int) := Int.natCast_nonneg _
        have k1 : (i : Int) < 24 := by omega
        have hM := boxF_bd i
        have b0 := R.out.blk.cell (i := i) hi24
        rw [show clmI T k i = T i from by unfold clmI; rw [if_neg (by omega)]] at b0
        have BC := Lib.hid (fun (x : World) => rbound_any i x hi24)
        obtain ⟨H2, hH2⟩ : ∃ y, (H1 || orB (clmP T) k) = y := ⟨_, rfl⟩
        rw [hH2] at R
        have EV := Lib.hid (show clmF T i = clampV (T i) (-(boxF i)) (boxF i) ∧ clmP T k = clampH (T i) (-(boxF i)) (boxF i) from ⟨by unfold clmF; rw [if_neg (by omega)], by unfold clmP; rw [hi]⟩)
        obtain ⟨M, hMe⟩ : ∃ M, boxF i = M := ⟨_, rfl⟩
        rw [hMe] at hM BC EV
        have hneg := neg_in M (by omega)
        have CL := Lib.hid (rclamp_any c H2 (T i) (-M) M wr.drew (by exact R.out.upd.cellc HC.out) (by exact (R.out.upd.frozen hcb).trans HF.out))
        obtain ⟨CV, hCV⟩ : ∃ y, clampV (T i) (-M) M = y := ⟨_, rfl⟩
        obtain ⟨CH, hCH⟩ : ∃ y, clampH (T i) (-M) M = y := ⟨_, rfl⟩
        rw [hCV, hCH] at CL EV
        have EK := Lib.hid (And.intro hH2 hi)
        obtain ⟨x, hx⟩ : ∃ x, T i = x := ⟨_, rfl⟩
        rw [hx] at b0 CL
        have RD := Lib.hid (KpR.mk (w := w) R.out.upd.drew R.out.blk R.out.res)
        have R1 := Lib.hid R.out.blk
        clear R hH2 hMe hM hCV hCH hx hi
        go_upto_region 7 with fail
        refine wp_region_M (fun w' => w'.cell? ⟨w.heap.size, i, none⟩ = some (.int .i64 x)) 14 (by kernel_rfl) ?_ (fun hHeld => ?_)
        · exact b0
        refine wpAnyM_take 0 (v := ?_) rfl (by kernel_rfl) (fun _ _ _ h => h) (Or.inl ⟨by rfl, ?_⟩) (by assumption) ?_
        rotate_left
        · (intro wx hSw; (try dsimp only at hSw); go_simp; (try with_reducible rfl))
        (try simp only [Act.put, List.setIfInBounds_toArray, List.set_cons_zero, List.set_cons_succ])
        refine wpAnyM_take 1 (v := ?_) rfl (by kernel_rfl) (fun _ _ _ h => h) (Or.inl ⟨by rfl, ?_⟩) (by assumption) ?_
        rotate_left
        · (intro wx hSw; (try dsimp only at hSw); go_simp; (try with_reducible rfl))
        (try simp only [Act.put, List.setIfInBounds_toArray, List.set_cons_zero, List.set_cons_succ])
        refine wpAnyM_take 2 (v := ?_) rfl (by kernel_rfl) (fun _ _ _ h => h) (Or.inl ⟨by rfl, ?_⟩) (by assumption) ?_
        rotate_left
        · (intro wx hSw; (try dsimp only at hSw); go_simp; (try with_reducible rfl))
        (try simp only [Act.put, List.setIfInBounds_toArray, List.set_cons_zero, List.set_cons_succ])
        refine wpAnyM_take 3 (v := ?_) rfl (by kernel_rfl) (fun _ _ _ h => h) (Or.inl ⟨by rfl, ?_⟩) (by assumption) ?_
        rotate_left
        · (intro wx hSw; (try dsimp only at hSw); go_simp; (try with_reducible rfl))
        (try simp only [Act.put, List.setIfInBounds_toArray, List.set_cons_zero, List.set_cons_succ])
        refine wpAnyM_take 4 (v := ?_) rfl (by kernel_rfl) (fun _ _ _ h => h) (Or.inl ⟨by rfl, ?_⟩) (by assumption) ?_
        rotate_left
        · (intro wx hSw; (try dsimp only at hSw); go_simp; (try with_reducible rfl))
        (try simp only [Act.put, List.setIfInBounds_toArray, List.set_cons_zero, List.set_cons_succ])
        refine wpAnyM_take 5 (v := ?_) rfl (by kernel_rfl) (fun _ _ _ h => h) (Or.inl ⟨by rfl, ?_⟩) (by assumption) ?_
        rotate_left
        · (intro wx hSw; (try dsimp only at hSw); go_simp; (first | rw [if_pos (by omega)] | rw [if_pos ⟨by omega, by omega⟩] | skip); (try with_reducible rfl))
        (try simp only [Act.put, List.setIfInBounds_toArray, List.set_cons_zero, List.set_cons_succ])
        refine wpAnyM_take 6 (v := ?_) rfl (by kernel_rfl) (fun _ _ _ h => h) (Or.inl ⟨by rfl, ?_⟩) (by assumption) ?_
        rotate_left
        · (intro wx hSw; (try dsimp only at hSw); go_simp; (try with_reducible rfl))
        (try simp only [Act.put, List.setIfInBounds_toArray, List.set_cons_zero, List.set_cons_succ])
        refine wpAnyM_take 7 (v := ?_) rfl (by kernel_rfl) (fun _ _ _ h => h) (Or.inl ⟨by rfl, ?_⟩) (by assumption) ?_
        rotate_left
        · (intro wx hSw; (try dsimp only at hSw); go_simp; (try with_reducible rfl))
        (try simp only [Act.put, List.setIfInBounds_toArray, List.set_cons_zero, List.set_cons_succ])
        refine wpAnyM_take 10 (v := ?_) rfl (by kernel_rfl) (fun _ _ _ h => h) (Or.inl ⟨by rfl, ?_⟩) (by assumption) ?_
        rotate_left
        · (intro wx hSw; (try dsimp only at hSw); go_simp; (try with_reducible rfl))
        (try simp only [Act.put, List.setIfInBounds_toArray, List.set_cons_zero, List.set_cons_succ])
        refine wpAnyM_oneS 8 rfl (by kernel_rfl) (fun K hK => ?_)
        go_simp
        (refine (BC.out _).mono ?_); rintro e w5 ⟨rfl, rfl⟩
        (try dsimp only)
        (try simp only [Act.put, List.setIfInBounds_toArray, List.set_cons_zero, List.set_cons_succ])
        clear hHeld
        refine hK.out _ _ ?_ (fun hHeld => ?_)
        · exact b0
        clear hK K
        (try simp only [Act.put, List.setIfInBounds_toArray, List.set_cons_zero, List.set_cons_succ])
        refine wpAnyM_take 9 (v := ?_) rfl (by kernel_rfl) (fun _ _ _ h => h) (Or.inl ⟨by rfl, ?_⟩) (by assumption) ?_
        rotate_left
        · (intro wx hSw; go_simp; (try rw [hneg]); (try with_reducible rfl))
        (try simp only [Act.put, List.setIfInBounds_toArray, List.set_cons_zero, List.set_cons_succ])
        refine wpAnyM_oneS 11 rfl (by kernel_rfl) (fun K hK => ?_)
        go_simp
        (refine (BC.out _).mono ?_); rintro e w6 ⟨rfl, rfl⟩
        (try dsimp only)
        (try simp only [Act.put, List.setIfInBounds_toArray, List.set_cons_zero, List.set_cons_succ])
        clear hHeld
        refine hK.out _ _ ?_ (fun hHeld => ?_)
        · exact b0
        clear hK K
        (try simp only [Act.put, List.setIfInBounds_toArray, List.set_cons_zero, List.set_cons_succ])
        refine wpAnyM_oneS 12 rfl (by kernel_rfl) (fun K hK => ?_)
        go_simp
        (refine CL.out.mono ?_); rintro e w7 ⟨rfl, hw7⟩; have R3 := Lib.hid (RD.out.upd' hcb ((Upd.set c (H2 || CH) wr.drew).then (by rw [hw7]; exact Below.refl _ _))); have b1 : w7.cell? ⟨w.heap.size, i, none⟩ = some (.int .i64 x) := (by subst hw7; exact (World.cell?_setCell_other wr.drew c ⟨w.heap.size, i, none⟩ _ (fun e => by rw [e] at hcb; simp at hcb)).trans b0); have b2 := R3.out.blk.free i; clear hw7
        (try dsimp only)
        (try simp only [Act.put, List.setIfInBounds_toArray, List.set_cons_zero, List.set_cons_succ])
        clear hHeld
        refine hK.out _ _ ?_ (fun hHeld => ?_)
        · exact b1
        clear hK K
        (try simp only [Act.put, List.setIfInBounds_toArray, List.set_cons_zero, List.set_cons_succ])
        refine wpAnyM_take 13 (v := ?_) rfl (by kernel_rfl) (fun _ _ _ h => h) (Or.inl ⟨by rfl, ?_⟩) (by assumption) ?_
        rotate_left
        · (intro wx hSw; (try dsimp only at hSw); go_simp; (first | rw [if_pos (by omega)] | rw [if_pos ⟨by omega, by omega⟩] | skip); (try with_reducible rfl))
        (try simp only [Act.put, List.setIfInBounds_toArray, List.set_cons_zero, List.set_cons_succ])
        refine wpAnyM_one 14 rfl (by kernel_rfl) (fun K hK => ?_)
        go_simp
        refine hK.out _ _ (.inl (by kernel_rfl)) (fun _ => ?_)
        clear hK K
        (try simp only [Act.put, List.setIfInBounds_toArray, List.set_cons_zero, List.set_cons_succ])
        refine wpAnyM_done (by kernel_rfl) ?_ _
        (try clear hHeld)
        go_wp2_with fail
        go_roundw
        case rel =>
          refine ⟨k + 1, by omega, by rw [← EK.out.2]; go_num, Lib.hid ⟨?_, ?_, R3.out.res.other (by simp) _⟩⟩
          · rw [show (H1 || orB (clmP T) (k + 1)) = (H2 || CH) from by rw [← EK.out.1, ← EV.out.2]; simp [orB, Bool.or_assoc]]
            exact R3.out.upd.setCell (Nat.le_refl _) _
          · refine (R3.out.blk.set _ _).congr fun j hj => ?_
            have hk4 := EK.out.2
            simp only [Go.Proofs.Ytcibndlpnfikhaa.upd, clmI]
            by_cases h1 : j = i
            · subst h1; rw [if_pos rfl, if_pos (by omega), EV.out.1]
            · rw [if_neg h1]; split <;> split <;> first | rfl | omega
        case measure => simp [intOf]; omega
      · have hk20 : k = 20 := by omega
        subst hk20
        rw [show ((4 + 20 : Nat) : Int) = 24 from rfl]
        have B0 := R.out.blk
        have B1 := R.out.res
        have U := Lib.hid R.out.upd
        clear R hlt hk
        go_wp2_with (first | (refine wpList_load_row rfl 23 _ rfl (w.heap.size) rfl 23 _ (0, 0) _ (B0) Try.underlying23 rfl (ist.trans (by rw [arrv_size])) ?_) | (refine wpList_store_row rfl 23 _ _ rfl (w.heap.size + 1) _ rfl rfl 23 _ (B1) (ist.trans (by rw [arrv_size])) (by rw [arrv_size, arrv_size]) (oneCell_arrv _ _) ?_))
        refine bodyPost_ret (results_cell_row Try.results14 _ _ (w.heap.size + 1) 23 (arrv 24 (clmI T 20)) (0, 0) _ rfl (setRow_heap _ _ _ _ _ _ B1) Try.underlying23 rfl (ist.trans (by rw [arrv_size]))) rfl ⟨?_, ?_⟩
        · rw [E.out.1]
          exact congrArg (fun x => Ending.returned (Value.agg x)) (arrv_congr fun i hi => by unfold clmI; rw [if_pos (by omega)])
        · rw [E.out.2]
          exact U.out.then' (below_row (Below.refl _ _) (by omega) _)
  · have hu2 : unitB S = false := by simpa using hu
    obtain ⟨T, hT⟩ : ∃ T, turnd S (uniV S) = T := ⟨_, rfl⟩
    obtain ⟨H1, hH1⟩ : ∃ y, (h || uniH S) = y := ⟨_, rfl⟩
    have E := Lib.hid (show keepF S = clmF T ∧ (h || keepH S) = (H1 || orB (clmP T) 20) by rw [← hH1]; unfold keepF keepH keepI clmH; rw [if_neg hu, if_neg hu, hT, ← Bool.or_assoc]; exact ⟨rfl, rfl⟩)
    have HT := Lib.hid (And.intro hT hH1)
    clear hT hH1 hu
    go_upto_region 3 with (first | (refine wpList_load_row rfl 30 _ rfl (bq) rfl 30 _ (0, 0) _ (q2) Try.underlying30 rfl (irq.trans (by rw [arrv_size])) ?_) | (go_at_call 20; (refine (rnear_any S _).mono ?_); rintro e w3 ⟨rfl, hb3⟩; (rw [hu2]); have S3 := Lib.hid (S2.out.down hb3); have Q3 := Lib.hid (Q2.out.below hb3); clear hb3))
    clear q2 Q2 S2 hu2
    refine wp_region_M (fun w' => Blk w' w.heap.size 23 24 S ∧ Blk w' bq 30 4 S) 5 (by kernel_rfl) ?_ (fun hHeld => ?_)
    · exact ⟨S3.out.blk, Q3.out⟩
    refine wpAnyM_take 0 (v := ?_) rfl (by kernel_rfl) (fun _ _ _ h => h) (Or.inl ⟨by rfl, ?_⟩) (by assumption) ?_
    rotate_left
    · (intro wx hSw; refine Eq.trans (run_load_row 23 (.tmp 3) (by rfl) (w.heap.size) (by rfl) _ _ _ _ (hSw.1) Try.underlying23 rfl (ist.trans (by rw [arrv_size]))) ?_; with_reducible rfl)
    (try simp only [Act.put, List.setIfInBounds_toArray, List.set_cons_zero, List.set_cons_succ])
    refine wpAnyM_take 1 (v := ?_) rfl (by kernel_rfl) (fun _ _ _ h => h) (Or.inl ⟨by rfl, ?_⟩) (by assumption) ?_
    rotate_left
    · (intro wx hSw; (try dsimp only at hSw); go_simp; (try with_reducible rfl))
    (try simp only [Act.put, List.setIfInBounds_toArray, List.set_cons_zero, List.set_cons_succ])
    refine wpAnyM_take 2 (v := ?_) rfl (by kernel_rfl) (fun _ _ _ h => h) (Or.inl ⟨by rfl, ?_⟩) (by assumption) ?_
    rotate_left
    · (intro wx hSw; refine Eq.trans (run_load_row 30 (.tmp 5) (by rfl) (bq) (by rfl) _ _ _ _ (hSw.2) Try.underlying30 rfl (irq.trans (by rw [arrv_size]))) ?_; with_reducible rfl)
    (try simp only [Act.put, List.setIfInBounds_toArray, List.set_cons_zero, List.set_cons_succ])
    refine wpAnyM_oneS 3 rfl (by kernel_rfl) (fun K hK => ?_)
    go_simp
    (refine (rqunit_any c h S w3.drew (by exact S3.out.upd.cellc HC.out) (by exact (S3.out.upd.frozen hcb).trans HF.out)).mono ?_); rintro e w4 ⟨rfl, hu4⟩; have S4 := Lib.hid (S3.out.drew.upd' hcb hu4); have Q4 := Lib.hid (Blk.upd (w := w3.drew) Q3.out hu4 (by omega)); clear hu4
    (try dsimp only)
    (try simp only [Act.put, List.setIfInBounds_toArray, List.set_cons_zero, List.set_cons_succ])
    clear hHeld
    refine hK.out _ _ ?_ (fun hHeld => ?_)
    · exact ⟨S4.out.blk, Q4.out⟩
    clear hK K
    (try simp only [Act.put, List.setIfInBounds_toArray, List.set_cons_zero, List.set_cons_succ])
    refine wpAnyM_oneS 4 rfl (by kernel_rfl) (fun K hK => ?_)
    go_simp
    (refine (rturn_any S (uniV S) _).mono ?_); rintro e w5 ⟨rfl, hb5⟩; have S5 := Lib.hid (S4.out.down hb5); have Q5 := Lib.hid (Q4.out.below hb5); clear hb5; (rw [HT.out.1]); have P5 := S5.out.blk
    (try dsimp only)
    (try simp only [Act.put, List.setIfInBounds_toArray, List.set_cons_zero, List.set_cons_succ])
    clear hHeld
    refine hK.out _ _ ?_ (fun hHeld => ?_)
    · exact ⟨S5.out.blk, Q5.out⟩
    clear hK K
    (try simp only [Act.put, List.setIfInBounds_toArray, List.set_cons_zero, List.set_cons_succ])
    refine wpAnyM_one 5 rfl (by kernel_rfl) (fun K hK => ?_)
    go_simp; rw [if_pos (arrv_size _ _), run_storeCells_row _ P5]; go_simp
    refine hK.out _ _ (.inl (by kernel_rfl)) (fun _ => ?_)
    clear hK K
    (try simp only [Act.put, List.setIfInBounds_toArray, List.set_cons_zero, List.set_cons_succ])
    refine wpAnyM_done (by kernel_rfl) ?_ _
    (try clear hHeld)
    have S6 : Hid (KpR c H1 T w (w5.setRow w.heap.size (arrv 24 T))) := Lib.hid (by rw [← HT.out.2]; exact S5.out.row T)
    generalize w5.setRow w.heap.size (arrv 24 T) = W6 at *
    clear S3 Q3 S4 Q4 S5 Q5 P5 HT
    go_wp2_with fail
    go_loopw [6] (fun i wr => ∃ k : Nat, k ≤ 20 ∧ i = .int .i64 ((4 + k : Nat) : Int) ∧ Hid (KpR c (H1 || orB (clmP T) k) (clmI T k) w wr)) (fun i _ => 24 - (intOf i).toNat)
    case atStart => exact ⟨0, by omega, rfl, Lib.hid (by rw [show (H1 || orB (clmP T) 0) = H1 from by simp [orB], show clmI T 0 = T from by funext i; simp only [clmI, clmF]; split <;> rfl]; exact S6.out)⟩
    case round =>
      obtain ⟨k, hk, rfl, R⟩ := hrel
      clear S6
      by_cases hlt : k < 20
      · obtain ⟨i, hi⟩ : ∃ i : Nat, 4 + k = i := ⟨_, rfl⟩
        rw [hi]
        have hi24 : i < 24 := by omega
        have d1 : decide ((i : Int) < 24) = true := by simp; omega
        have k0 : (0 : Int) ≤ (i : Int) := Int.natCast_nonneg _
        have k1 : (i : Int) < 24 := by omega
        have hM := boxF_bd i
        have b0 := R.out.blk.cell (i := i) hi24
        rw [show clmI T k i = T i from by unfold clmI; rw [if_neg (by omega)]] at b0
        have BC := Lib.hid (fun (x : World) => rbound_any i x hi24)
        obtain ⟨H2, hH2⟩ : ∃ y, (H1 || orB (clmP T) k) = y := ⟨_, rfl⟩
        rw [hH2] at R
        have EV := Lib.hid (show clmF T i = clampV (T i) (-(boxF i)) (boxF i) ∧ clmP T k = clampH (T i) (-(boxF i)) (boxF i) from ⟨by unfold clmF; rw [if_neg (by omega)], by unfold clmP; rw [hi]⟩)
        obtain ⟨M, hMe⟩ : ∃ M, boxF i = M := ⟨_, rfl⟩
        rw [hMe] at hM BC EV
        have hneg := neg_in M (by omega)
        have CL := Lib.hid (rclamp_any c H2 (T i) (-M) M wr.drew (by exact R.out.upd.cellc HC.out) (by exact (R.out.upd.frozen hcb).trans HF.out))
        obtain ⟨CV, hCV⟩ : ∃ y, clampV (T i) (-M) M = y := ⟨_, rfl⟩
        obtain ⟨CH, hCH⟩ : ∃ y, clampH (T i) (-M) M = y := ⟨_, rfl⟩
        rw [hCV, hCH] at CL EV
        have EK := Lib.hid (And.intro hH2 hi)
        obtain ⟨x, hx⟩ : ∃ x, T i = x := ⟨_, rfl⟩
        rw [hx] at b0 CL
        have RD := Lib.hid (KpR.mk (w := w) R.out.upd.drew R.out.blk R.out.res)
        have R1 := Lib.hid R.out.blk
        clear R hH2 hMe hM hCV hCH hx hi
        go_upto_region 7 with fail
        refine wp_region_M (fun w' => w'.cell? ⟨w.heap.size, i, none⟩ = some (.int .i64 x)) 14 (by kernel_rfl) ?_ (fun hHeld => ?_)
        · exact b0
        refine wpAnyM_take 0 (v := ?_) rfl (by kernel_rfl) (fun _ _ _ h => h) (Or.inl ⟨by rfl, ?_⟩) (by assumption) ?_
        rotate_left
        · (intro wx hSw; (try dsimp only at hSw); go_simp; (try with_reducible rfl))
        (try simp only [Act.put, List.setIfInBounds_toArray, List.set_cons_zero, List.set_cons_succ])
        refine wpAnyM_take 1 (v := ?_) rfl (by kernel_rfl) (fun _ _ _ h => h) (Or.inl ⟨by rfl, ?_⟩) (by assumption) ?_
        rotate_left
        · (intro wx hSw; (try dsimp only at hSw); go_simp; (try with_reducible rfl))
        (try simp only [Act.put, List.setIfInBounds_toArray, List.set_cons_zero, List.set_cons_succ])
        refine wpAnyM_take 2 (v := ?_) rfl (by kernel_rfl) (fun _ _ _ h => h) (Or.inl ⟨by rfl, ?_⟩) (by assumption) ?_
        rotate_left
        · (intro wx hSw; (try dsimp only at hSw); go_simp; (try with_reducible rfl))
        (try simp only [Act.put, List.setIfInBounds_toArray, List.set_cons_zero, List.set_cons_succ])
        refine wpAnyM_take 3 (v := ?_) rfl (by kernel_rfl) (fun _ _ _ h => h) (Or.inl ⟨by rfl, ?_⟩) (by assumption) ?_
        rotate_left
        · (intro wx hSw; (try dsimp only at hSw); go_simp; (try with_reducible rfl))
        (try simp only [Act.put, List.setIfInBounds_toArray, List.set_cons_zero, List.set_cons_succ])
        refine wpAnyM_take 4 (v := ?_) rfl (by kernel_rfl) (fun _ _ _ h => h) (Or.inl ⟨by rfl, ?_⟩) (by assumption) ?_
        rotate_left
        · (intro wx hSw; (try dsimp only at hSw); go_simp; (try with_reducible rfl))
        (try simp only [Act.put, List.setIfInBounds_toArray, List.set_cons_zero, List.set_cons_succ])
        refine wpAnyM_take 5 (v := ?_) rfl (by kernel_rfl) (fun _ _ _ h => h) (Or.inl ⟨by rfl, ?_⟩) (by assumption) ?_
        rotate_left
        · (intro wx hSw; (try dsimp only at hSw); go_simp; (first | rw [if_pos (by omega)] | rw [if_pos ⟨by omega, by omega⟩] | skip); (try with_reducible rfl))
        (try simp only [Act.put, List.setIfInBounds_toArray, List.set_cons_zero, List.set_cons_succ])
        refine wpAnyM_take 6 (v := ?_) rfl (by kernel_rfl) (fun _ _ _ h => h) (Or.inl ⟨by rfl, ?_⟩) (by assumption) ?_
        rotate_left
        · (intro wx hSw; (try dsimp only at hSw); go_simp; (try with_reducible rfl))
        (try simp only [Act.put, List.setIfInBounds_toArray, List.set_cons_zero, List.set_cons_succ])
        refine wpAnyM_take 7 (v := ?_) rfl (by kernel_rfl) (fun _ _ _ h => h) (Or.inl ⟨by rfl, ?_⟩) (by assumption) ?_
        rotate_left
        · (intro wx hSw; (try dsimp only at hSw); go_simp; (try with_reducible rfl))
        (try simp only [Act.put, List.setIfInBounds_toArray, List.set_cons_zero, List.set_cons_succ])
        refine wpAnyM_take 10 (v := ?_) rfl (by kernel_rfl) (fun _ _ _ h => h) (Or.inl ⟨by rfl, ?_⟩) (by assumption) ?_
        rotate_left
        · (intro wx hSw; (try dsimp only at hSw); go_simp; (try with_reducible rfl))
        (try simp only [Act.put, List.setIfInBounds_toArray, List.set_cons_zero, List.set_cons_succ])
        refine wpAnyM_oneS 8 rfl (by kernel_rfl) (fun K hK => ?_)
        go_simp
        (refine (BC.out _).mono ?_); rintro e w5 ⟨rfl, rfl⟩
        (try dsimp only)
        (try simp only [Act.put, List.setIfInBounds_toArray, List.set_cons_zero, List.set_cons_succ])
        clear hHeld
        refine hK.out _ _ ?_ (fun hHeld => ?_)
        · exact b0
        clear hK K
        (try simp only [Act.put, List.setIfInBounds_toArray, List.set_cons_zero, List.set_cons_succ])
        refine wpAnyM_take 9 (v := ?_) rfl (by kernel_rfl) (fun _ _ _ h => h) (Or.inl ⟨by rfl, ?_⟩) (by assumption) ?_
        rotate_left
        · (intro wx hSw; go_simp; (try rw [hneg]); (try with_reducible rfl))
        (try simp only [Act.put, List.setIfInBounds_toArray, List.set_cons_zero, List.set_cons_succ])
        refine wpAnyM_oneS 11 rfl (by kernel_rfl) (fun K hK => ?_)
        go_simp
        (refine (BC.out _).mono ?_); rintro e w6 ⟨rfl, rfl⟩
        (try dsimp only)
        (try simp only [Act.put, List.setIfInBounds_toArray, List.set_cons_zero, List.set_cons_succ])
        clear hHeld
        refine hK.out _ _ ?_ (fun hHeld => ?_)
        · exact b0
        clear hK K
        (try simp only [Act.put, List.setIfInBounds_toArray, List.set_cons_zero, List.set_cons_succ])
        refine wpAnyM_oneS 12 rfl (by kernel_rfl) (fun K hK => ?_)
        go_simp
        (refine CL.out.mono ?_); rintro e w7 ⟨rfl, hw7⟩; have R3 := Lib.hid (RD.out.upd' hcb ((Upd.set c (H2 || CH) wr.drew).then (by rw [hw7]; exact Below.refl _ _))); have b1 : w7.cell? ⟨w.heap.size, i, none⟩ = some (.int .i64 x) := (by subst hw7; exact (World.cell?_setCell_other wr.drew c ⟨w.heap.size, i, none⟩ _ (fun e => by rw [e] at hcb; simp at hcb)).trans b0); have b2 := R3.out.blk.free i; clear hw7
        (try dsimp only)
        (try simp only [Act.put, List.setIfInBounds_toArray, List.set_cons_zero, List.set_cons_succ])
        clear hHeld
        refine hK.out _ _ ?_ (fun hHeld => ?_)
        · exact b1
        clear hK K
        (try simp only [Act.put, List.setIfInBounds_toArray, List.set_cons_zero, List.set_cons_succ])
        refine wpAnyM_take 13 (v := ?_) rfl (by kernel_rfl) (fun _ _ _ h => h) (Or.inl ⟨by rfl, ?_⟩) (by assumption) ?_
        rotate_left
        · (intro wx hSw; (try dsimp only at hSw); go_simp; (first | rw [if_pos (by omega)] | rw [if_pos ⟨by omega, by omega⟩] | skip); (try with_reducible rfl))
        (try simp only [Act.put, List.setIfInBounds_toArray, List.set_cons_zero, List.set_cons_succ])
        refine wpAnyM_one 14 rfl (by kernel_rfl) (fun K hK => ?_)
        go_simp
        refine hK.out _ _ (.inl (by kernel_rfl)) (fun _ => ?_)
        clear hK K
        (try simp only [Act.put, List.setIfInBounds_toArray, List.set_cons_zero, List.set_cons_succ])
        refine wpAnyM_done (by kernel_rfl) ?_ _
        (try clear hHeld)
        go_wp2_with fail
        go_roundw
        case rel =>
          refine ⟨k + 1, by omega, by rw [← EK.out.2]; go_num, Lib.hid ⟨?_, ?_, R3.out.res.other (by simp) _⟩⟩
          · rw [show (H1 || orB (clmP T) (k + 1)) = (H2 || CH) from by rw [← EK.out.1, ← EV.out.2]; simp [orB, Bool.or_assoc]]
            exact R3.out.upd.setCell (Nat.le_refl _) _
          · refine (R3.out.blk.set _ _).congr fun j hj => ?_
            have hk4 := EK.out.2
            simp only [Go.Proofs.Ytcibndlpnfikhaa.upd, clmI]
            by_cases h1 : j = i
            · subst h1; rw [if_pos rfl, if_pos (by omega), EV.out.1]
            · rw [if_neg h1]; split <;> split <;> first | rfl | omega
        case measure => simp [intOf]; omega
      · have hk20 : k = 20 := by omega
        subst hk20
        rw [show ((4 + 20 : Nat) : Int) = 24 from rfl]
        have B0 := R.out.blk
        have B1 := R.out.res
        have U := Lib.hid R.out.upd
        clear R hlt hk
        go_wp2_with (first | (refine wpList_load_row rfl 23 _ rfl (w.heap.size) rfl 23 _ (0, 0) _ (B0) Try.underlying23 rfl (ist.trans (by rw [arrv_size])) ?_) | (refine wpList_store_row rfl 23 _ _ rfl (w.heap.size + 1) _ rfl rfl 23 _ (B1) (ist.trans (by rw [arrv_size])) (by rw [arrv_size, arrv_size]) (oneCell_arrv _ _) ?_))
        refine bodyPost_ret (results_cell_row Try.results14 _ _ (w.heap.size + 1) 23 (arrv 24 (clmI T 20)) (0, 0) _ rfl (setRow_heap _ _ _ _ _ _ B1) Try.underlying23 rfl (ist.trans (by rw [arrv_size]))) rfl ⟨?_, ?_⟩
        · rw [E.out.1]
          exact congrArg (fun x => Ending.returned (Value.agg x)) (arrv_congr fun i hi => by unfold clmI; rw [if_pos (by omega)])
        · rw [E.out.2]
          exact U.out.then' (below_row (Below.refl _ _) (by omega) _)
/-- A state that has just been turned by a Unit is near One. -/
theorem keepI_unit (S Q : Nat → Int) : keepI (turnd S (uniV Q)) = turnd S (uniV Q) ∧ unitB (turnd S (uniV Q)) = true := by
  have h : unitB (turnd S (uniV Q)) = true := by
    rw [unitB_iff]
    have g := unit_good Q
    have e : ∀ i, i < 4 → turnd S (uniV Q) i = uniV Q i := fun i hi => by unfold turnd; rw [if_pos hi]
    unfold UnitQ at g ⊢
    rw [e 0 (by decide), e 1 (by decide), e 2 (by decide), e 3 (by decide)]
    exact ⟨fun i hi => by rw [e i hi]; exact g.1 i hi, g.2⟩
  exact ⟨by unfold keepI; rw [if_pos h], h⟩
structure RadR (c : Addr) (h : Bool) (S D g : Nat → Int) (w wr : World) : Prop where
  upd : Upd c h w wr
  sB : Blk wr w.heap.size 23 24 g
  dB : Blk wr (w.heap.size + 1) 22 24 D
  rB : Blk wr (w.heap.size + 1 + 1) 23 24 (fun _ => 0)
theorem RadR.upd' {c : Addr} {h h' : Bool} {S D g : Nat → Int} {w wr w' : World} (s : RadR c h S D g w wr) (hc : c.block < w.heap.size) (u : Upd c h' wr w') : RadR c h' S D g w w' :=
  ⟨s.upd.trans u, s.sB.upd u (by omega), s.dB.upd u (by omega), s.rB.upd u (by omega)⟩
theorem RadR.down {c : Addr} {h : Bool} {S D g : Nat → Int} {w wr w' : World} (s : RadR c h S D g w wr) (u : Below wr.heap.size wr w') : RadR c h S D g w w' :=
  ⟨s.upd.then u, s.sB.below u, s.dB.below u, s.rB.below u⟩
theorem RadR.drew {c : Addr} {h : Bool} {S D g : Nat → Int} {w wr : World} (s : RadR c h S D g w wr) : RadR c h S D g w wr.drew := ⟨s.upd.drew, s.sB, s.dB, s.rB⟩
theorem RadR.row {c : Addr} {h : Bool} {S D g : Nat → Int} {w wr : World} (s : RadR c h S D g w wr) (f : Nat → Int) : RadR c h S D f w (wr.setRow w.heap.size (arrv 24 f)) :=
  ⟨s.upd.then' (below_row (Below.refl _ _) (Nat.le_refl _) _), s.sB.setRow f, s.dB.setRow_other _ (by omega), s.rB.setRow_other _ (by omega)⟩
set_option maxHeartbeats 8000000 in
theorem radd16_any (c : Addr) (h : Bool) (S D : Nat → Int) (w : World) (hc : w.cell? c = some (.bool h)) (hf : w.frozen? c = false) :
    Calls Try.prog 16 #[.pointer (some c), .agg (arrv 24 S), .agg (arrv 24 D)] w fun e w' => e = .returned (.agg (arrv 24 (add1F S D))) ∧ Upd c (h || add1H S D) w w' := by
  have hcb := World.block_lt_of_cell? w c hc
  have S0 : Hid (RadR c h S D (sumK S D 0) w (((w.alloc (.cells (arrv 24 S) 23)).alloc (.cells (arrv 24 D) 22)).alloc (.cells #[.int .i64 0, .int .i64 0, .int .i64 0, .int .i64 0, .int .i64 0, .int .i64 0, .int .i64 0, .int .i64 0, .int .i64 0, .int .i64 0, .int .i64 0, .int .i64 0, .int .i64 0, .int .i64 0, .int .i64 0, .int .i64 0, .int .i64 0, .int .i64 0, .int .i64 0, .int .i64 0, .int .i64 0, .int .i64 0, .int .i64 0, .int .i64 0] 23))) := Lib.hid
    ⟨Upd.then (Upd.refl hc) (by (repeat (first | with_reducible exact Below.refl _ _ | with_reducible apply Below.drew | (with_reducible refine below_drewN ?_ _) | (with_reducible refine Below.alloc ?_ (by (try simp) <;> omega) _) | (with_reducible refine Below.setCell ?_ (by (try simp) <;> omega) _)))), (((Blk.new w _ 24 _).alloc _).alloc _).congr fun i hi => by simp [sumK], (Blk.new1 w _ _ 24 _).alloc _, by rw [zvec24]; exact blk_new2 w _ _ _ 24 _⟩
  have HC := Lib.hid hc
  have HF := Lib.hid hf
  clear hc hf
  go_enter Try.func16, Try.ntmps16
  go_upto_region 1 with fail
  generalize ((w.alloc (.cells (arrv 24 S) 23)).alloc (.cells (arrv 24 D) 22)).alloc (.cells #[.int .i64 0, .int .i64 0, .int .i64 0, .int .i64 0, .int .i64 0, .int .i64 0, .int .i64 0, .int .i64 0, .int .i64 0, .int .i64 0, .int .i64 0, .int .i64 0, .int .i64 0, .int .i64 0, .int .i64 0, .int .i64 0, .int .i64 0, .int .i64 0, .int .i64 0, .int .i64 0, .int .i64 0, .int .i64 0, .int .i64 0, .int .i64 0] 23) = W0 at *
  go_wp2_with fail
  go_loopw [7] (fun i wr => ∃ k : Nat, k ≤ 24 ∧ i = .int .i64 k ∧ Hid (RadR c (h || orB (fun i => addH (S i) (D i)) k) S D (sumK S D k) w wr)) (fun i _ => 24 - (intOf i).toNat)
  case atStart => exact ⟨0, by omega, rfl, by rw [show (h || orB (fun i => addH (S i) (D i)) 0) = h from by simp [orB]]; exact S0⟩
  case round =>
    obtain ⟨k, hk, rfl, R⟩ := hrel
    clear S0
    by_cases hlt : k < 24
    · have d1 : decide ((k : Int) < 24) = true := by simp; omega
      have k0 : (0 : Int) ≤ (k : Int) := Int.natCast_nonneg _
      have k1 : (k : Int) < 24 := by omega
      have b0 := R.out.sB.cell (i := k) hlt
      rw [show sumK S D k k = S k from by simp [sumK]] at b0
      have e0 := R.out.dB.cell (i := k) hlt
      obtain ⟨H2, hH2⟩ : ∃ y, (h || orB (fun i => addH (S i) (D i)) k) = y := ⟨_, rfl⟩
      rw [hH2] at R
      have PL := Lib.hid (rplus_any c H2 (S k) (D k) wr.drew (by exact R.out.upd.cellc HC.out) (by exact (R.out.upd.frozen hcb).trans HF.out))
      have EV := Lib.hid (show satV (satV (S k) + satV (D k)) = addV (S k) (D k) ∧ (H2 || satH (S k) || satH (D k) || satH (satV (S k) + satV (D k))) = (h || orB (fun i => addH (S i) (D i)) (k + 1)) from ⟨rfl, by rw [← hH2]; simp [orB, addH, Bool.or_assoc]⟩)
      rw [EV.out.1, EV.out.2] at PL
      obtain ⟨AV, hAV⟩ : ∃ y, addV (S k) (D k) = y := ⟨_, rfl⟩
      obtain ⟨H3, hH3⟩ : ∃ y, (h || orB (fun i => addH (S i) (D i)) (k + 1)) = y := ⟨_, rfl⟩
      rw [hAV, hH3] at PL
      have EA := Lib.hid (And.intro hAV hH3)
      obtain ⟨x, hx⟩ : ∃ x, S k = x := ⟨_, rfl⟩
      obtain ⟨y, hy⟩ : ∃ y, D k = y := ⟨_, rfl⟩
      rw [hx] at b0 PL
      rw [hy] at e0 PL
      have RD := Lib.hid R.out.drew
      clear R hH2 EV hAV hH3 hx hy
      go_upto_region 4 with fail
      refine wp_region_M (fun w' => w'.cell? ⟨w.heap.size, k, none⟩ = some (.int .i64 x) ∧ w'.cell? ⟨w.heap.size + 1, k, none⟩ = some (.int .i64 y)) 12 (by kernel_rfl) ?_ (fun hHeld => ?_)
      · exact ⟨b0, e0⟩
      refine wpAnyM_take 0 (v := ?_) rfl (by kernel_rfl) (fun _ _ _ h => h) (Or.inl ⟨by rfl, ?_⟩) (by assumption) ?_
      rotate_left
      · (intro wx hSw; (try dsimp only at hSw); go_simp; (try with_reducible rfl))
      (try simp only [Act.put, List.setIfInBounds_toArray, List.set_cons_zero, List.set_cons_succ])
      refine wpAnyM_take 1 (v := ?_) rfl (by kernel_rfl) (fun _ _ _ h => h) (Or.inl ⟨by rfl, ?_⟩) (by assumption) ?_
      rotate_left
      · (intro wx hSw; (try dsimp only at hSw); go_simp; (try with_reducible rfl))
      (try simp only [Act.put, List.setIfInBounds_toArray, List.set_cons_zero, List.set_cons_succ])
      refine wpAnyM_take 2 (v := ?_) rfl (by kernel_rfl) (fun _ _ _ h => h) (Or.inl ⟨by rfl, ?_⟩) (by assumption) ?_
      rotate_left
      · (intro wx hSw; (try dsimp only at hSw); go_simp; (try with_reducible rfl))
      (try simp only [Act.put, List.setIfInBounds_toArray, List.set_cons_zero, List.set_cons_succ])
      refine wpAnyM_take 3 (v := ?_) rfl (by kernel_rfl) (fun _ _ _ h => h) (Or.inl ⟨by rfl, ?_⟩) (by assumption) ?_
      rotate_left
      · (intro wx hSw; (try dsimp only at hSw); go_simp; (try with_reducible rfl))
      (try simp only [Act.put, List.setIfInBounds_toArray, List.set_cons_zero, List.set_cons_succ])
      refine wpAnyM_take 4 (v := ?_) rfl (by kernel_rfl) (fun _ _ _ h => h) (Or.inl ⟨by rfl, ?_⟩) (by assumption) ?_
      rotate_left
      · (intro wx hSw; (try dsimp only at hSw); go_simp; (try with_reducible rfl))
      (try simp only [Act.put, List.setIfInBounds_toArray, List.set_cons_zero, List.set_cons_succ])
      refine wpAnyM_take 5 (v := ?_) rfl (by kernel_rfl) (fun _ _ _ h => h) (Or.inl ⟨by rfl, ?_⟩) (by assumption) ?_
      rotate_left
      · (intro wx hSw; (try dsimp only at hSw); go_simp; (first | rw [if_pos (by omega)] | rw [if_pos ⟨by omega, by omega⟩] | skip); (try with_reducible rfl))
      (try simp only [Act.put, List.setIfInBounds_toArray, List.set_cons_zero, List.set_cons_succ])
      refine wpAnyM_take 6 (v := ?_) rfl (by kernel_rfl) (fun _ _ _ h => h) (Or.inl ⟨by rfl, ?_⟩) (by assumption) ?_
      rotate_left
      · (intro wx hSw; (try dsimp only at hSw); go_simp; (try with_reducible rfl))
      (try simp only [Act.put, List.setIfInBounds_toArray, List.set_cons_zero, List.set_cons_succ])
      refine wpAnyM_take 7 (v := ?_) rfl (by kernel_rfl) (fun _ _ _ h => h) (Or.inl ⟨by rfl, ?_⟩) (by assumption) ?_
      rotate_left
      · (intro wx hSw; (try dsimp only at hSw); go_simp; (try with_reducible rfl))
      (try simp only [Act.put, List.setIfInBounds_toArray, List.set_cons_zero, List.set_cons_succ])
      refine wpAnyM_take 8 (v := ?_) rfl (by kernel_rfl) (fun _ _ _ h => h) (Or.inl ⟨by rfl, ?_⟩) (by assumption) ?_
      rotate_left
      · (intro wx hSw; (try dsimp only at hSw); go_simp; (first | rw [if_pos (by omega)] | rw [if_pos ⟨by omega, by omega⟩] | skip); (try with_reducible rfl))
      (try simp only [Act.put, List.setIfInBounds_toArray, List.set_cons_zero, List.set_cons_succ])
      refine wpAnyM_take 9 (v := ?_) rfl (by kernel_rfl) (fun _ _ _ h => h) (Or.inl ⟨by rfl, ?_⟩) (by assumption) ?_
      rotate_left
      · (intro wx hSw; (try dsimp only at hSw); go_simp; (try with_reducible rfl))
      (try simp only [Act.put, List.setIfInBounds_toArray, List.set_cons_zero, List.set_cons_succ])
      refine wpAnyM_oneS 10 rfl (by kernel_rfl) (fun K hK => ?_)
      go_simp
      (refine PL.out.mono ?_); rintro e w7 ⟨rfl, hw7⟩; have R3 := Lib.hid (RD.out.upd' hcb ((Upd.set c H3 wr.drew).then (by rw [hw7]; exact Below.refl _ _))); have b1 : w7.cell? ⟨w.heap.size, k, none⟩ = some (.int .i64 x) ∧ w7.cell? ⟨w.heap.size + 1, k, none⟩ = some (.int .i64 y) := (by subst hw7; exact ⟨(World.cell?_setCell_other wr.drew c ⟨w.heap.size, k, none⟩ _ (fun e => by rw [e] at hcb; simp at hcb)).trans b0, (World.cell?_setCell_other wr.drew c ⟨w.heap.size + 1, k, none⟩ _ (fun e => by rw [e] at hcb; simp at hcb; omega)).trans e0⟩); have b2 := R3.out.sB.free k; have b3 := b1.1; clear hw7
      (try dsimp only)
      (try simp only [Act.put, List.setIfInBounds_toArray, List.set_cons_zero, List.set_cons_succ])
      clear hHeld
      refine hK.out _ _ ?_ (fun hHeld => ?_)
      · exact b1
      clear hK K
      (try simp only [Act.put, List.setIfInBounds_toArray, List.set_cons_zero, List.set_cons_succ])
      refine wpAnyM_take 11 (v := ?_) rfl (by kernel_rfl) (fun _ _ _ h => h) (Or.inl ⟨by rfl, ?_⟩) (by assumption) ?_
      rotate_left
      · (intro wx hSw; (try dsimp only at hSw); go_simp; (first | rw [if_pos (by omega)] | rw [if_pos ⟨by omega, by omega⟩] | skip); (try with_reducible rfl))
      (try simp only [Act.put, List.setIfInBounds_toArray, List.set_cons_zero, List.set_cons_succ])
      refine wpAnyM_one 12 rfl (by kernel_rfl) (fun K hK => ?_)
      go_simp
      refine hK.out _ _ (.inl (by kernel_rfl)) (fun _ => ?_)
      clear hK K
      (try simp only [Act.put, List.setIfInBounds_toArray, List.set_cons_zero, List.set_cons_succ])
      refine wpAnyM_done (by kernel_rfl) ?_ _
      (try clear hHeld)
      go_wp2_with fail
      go_roundw
      case rel =>
        refine ⟨k + 1, by omega, by go_num, Lib.hid ⟨?_, ?_, R3.out.dB.other (by simp) _, R3.out.rB.other (by simp; omega) _⟩⟩
        · rw [EA.out.2]
          exact R3.out.upd.setCell (Nat.le_refl _) _
        · refine (R3.out.sB.set _ _).congr fun j hj => ?_
          simp only [Go.Proofs.Ytcibndlpnfikhaa.upd, sumK]
          by_cases h1 : j = k
          · subst h1; rw [if_pos rfl, if_pos (by omega), EA.out.1]
          · rw [if_neg h1]; split <;> split <;> first | rfl | omega
      case measure => simp [intOf]; omega
    · have hk24 : k = 24 := by omega
      subst hk24
      rw [show ((24 : Nat) : Int) = 24 from rfl]
      obtain ⟨G, hG⟩ : ∃ G, sumA S D = G := ⟨_, rfl⟩
      obtain ⟨H1, hH1⟩ : ∃ y, (h || orB (fun i => addH (S i) (D i)) 24) = y := ⟨_, rfl⟩
      have R2 : Hid (RadR c H1 S D G w wr) := Lib.hid ⟨by rw [← hH1]; exact R.out.upd, R.out.sB.congr fun i hi => by rw [← hG]; unfold sumK sumA; rw [if_pos hi], R.out.dB, R.out.rB⟩
      obtain ⟨T, hT⟩ : ∃ T, turnd G (uniV G) = T := ⟨_, rfl⟩
      have E := Lib.hid (show add1F S D = keepF T ∧ (h || add1H S D) = (H1 || uniH G || keepH T) by
        have hk := keepI_unit G G
        rw [hT] at hk
        rw [← hH1]
        unfold add1F add1H keepF keepH
        rw [hG, hT, hk.1, if_pos hk.2, Bool.false_or]
        exact ⟨rfl, by simp [Bool.or_assoc]⟩)
      clear R hG hH1 hlt hk
      have HT := Lib.hid hT
      clear hT
      go_upto_region 5 with fail
      refine wp_region_M (fun w' => Blk w' w.heap.size 23 24 G) 6 (by kernel_rfl) ?_ (fun hHeld => ?_)
      · exact R2.out.sB
      refine wpAnyM_take 0 (v := ?_) rfl (by kernel_rfl) (fun _ _ _ h => h) (Or.inl ⟨by rfl, ?_⟩) (by assumption) ?_
      rotate_left
      · (intro wx hSw; refine Eq.trans (run_load_row 23 (.tmp 4) (by rfl) (w.heap.size) (by rfl) _ _ _ _ (hSw) Try.underlying23 rfl (ist.trans (by rw [arrv_size]))) ?_; with_reducible rfl)
      (try simp only [Act.put, List.setIfInBounds_toArray, List.set_cons_zero, List.set_cons_succ])
      refine wpAnyM_take 1 (v := ?_) rfl (by kernel_rfl) (fun _ _ _ h => h) (Or.inl ⟨by rfl, ?_⟩) (by assumption) ?_
      rotate_left
      · (intro wx hSw; (try dsimp only at hSw); go_simp; (try with_reducible rfl))
      (try simp only [Act.put, List.setIfInBounds_toArray, List.set_cons_zero, List.set_cons_succ])
      refine wpAnyM_take 2 (v := ?_) rfl (by kernel_rfl) (fun _ _ _ h => h) (Or.inl ⟨by rfl, ?_⟩) (by assumption) ?_
      rotate_left
      · (intro wx hSw; refine Eq.trans (run_load_row 23 (.tmp 4) (by rfl) (w.heap.size) (by rfl) _ _ _ _ (hSw) Try.underlying23 rfl (ist.trans (by rw [arrv_size]))) ?_; with_reducible rfl)
      (try simp only [Act.put, List.setIfInBounds_toArray, List.set_cons_zero, List.set_cons_succ])
      refine wpAnyM_oneS 3 rfl (by kernel_rfl) (fun K hK => ?_)
      go_simp
      (refine (ratt_any G _).mono ?_); rintro e w3 ⟨rfl, hb3⟩; have S3 := Lib.hid (R2.out.drew.down hb3); clear hb3
      (try dsimp only)
      (try simp only [Act.put, List.setIfInBounds_toArray, List.set_cons_zero, List.set_cons_succ])
      clear hHeld
      refine hK.out _ _ ?_ (fun hHeld => ?_)
      · exact S3.out.sB
      clear hK K
      (try simp only [Act.put, List.setIfInBounds_toArray, List.set_cons_zero, List.set_cons_succ])
      refine wpAnyM_oneS 4 rfl (by kernel_rfl) (fun K hK => ?_)
      go_simp
      (refine (rqunit_any c H1 G w3 (S3.out.upd.cellc HC.out) ((S3.out.upd.frozen hcb).trans HF.out)).mono ?_); rintro e w4 ⟨rfl, hu4⟩; have S4 := Lib.hid (S3.out.upd' hcb hu4); clear hu4
      (try dsimp only)
      (try simp only [Act.put, List.setIfInBounds_toArray, List.set_cons_zero, List.set_cons_succ])
      clear hHeld
      refine hK.out _ _ ?_ (fun hHeld => ?_)
      · exact S4.out.sB
      clear hK K
      (try simp only [Act.put, List.setIfInBounds_toArray, List.set_cons_zero, List.set_cons_succ])
      refine wpAnyM_oneS 5 rfl (by kernel_rfl) (fun K hK => ?_)
      go_simp
      (refine (rturn_any G (uniV G) _).mono ?_); rintro e w5 ⟨rfl, hb5⟩; have S5 := Lib.hid (S4.out.down hb5); clear hb5; (rw [HT.out]); have P5 := S5.out.sB
      (try dsimp only)
      (try simp only [Act.put, List.setIfInBounds_toArray, List.set_cons_zero, List.set_cons_succ])
      clear hHeld
      refine hK.out _ _ ?_ (fun hHeld => ?_)
      · exact S5.out.sB
      clear hK K
      (try simp only [Act.put, List.setIfInBounds_toArray, List.set_cons_zero, List.set_cons_succ])
      refine wpAnyM_one 6 rfl (by kernel_rfl) (fun K hK => ?_)
      go_simp; rw [if_pos (arrv_size _ _), run_storeCells_row _ P5]; go_simp
      refine hK.out _ _ (.inl (by kernel_rfl)) (fun _ => ?_)
      clear hK K
      (try simp only [Act.put, List.setIfInBounds_toArray, List.set_cons_zero, List.set_cons_succ])
      refine wpAnyM_done (by kernel_rfl) ?_ _
      (try clear hHeld)
      have S6 := Lib.hid (S5.out.row T)
      generalize w5.setRow w.heap.size (arrv 24 T) = W6 at *
      clear R2 S3 S4 S5 P5 HT
      have P6 := S6.out.sB
      have KC := Lib.hid (rkeep16_any c (H1 || uniH G) T W6 (S6.out.upd.cellc HC.out) ((S6.out.upd.frozen hcb).trans HF.out))
      go_wp2_with (first | (refine wpList_load_row rfl 23 _ rfl (w.heap.size) rfl 23 _ (0, 0) _ (P6) Try.underlying23 rfl (ist.trans (by rw [arrv_size])) ?_) | (go_at_call 14; (refine KC.out.mono ?_); rintro e w7 ⟨rfl, hu7⟩; have S7 := Lib.hid (S6.out.upd' hcb hu7); have R7 := S7.out.rB; clear hu7) | (refine wpList_store_row rfl 23 _ _ rfl (w.heap.size + 1 + 1) _ rfl rfl 23 _ (R7) (ist.trans (by rw [arrv_size])) (by rw [arrv_size, arrv_size]) (oneCell_arrv _ _) ?_))
      refine bodyPost_ret (results_cell_row Try.results16 _ _ (w.heap.size + 1 + 1) 23 (arrv 24 (keepF T)) (0, 0) _ rfl (setRow_heap _ _ _ _ _ _ R7) Try.underlying23 rfl (ist.trans (by rw [arrv_size]))) rfl ⟨by rw [E.out.1], ?_⟩
      rw [E.out.2]
      exact S7.out.upd.then' (below_row (Below.refl _ _) (by omega) _)
end Go.Proofs.Ytcibndlpnfikhaa
/- An empty slice built, and a whole slice appended to it: of int, of int64. -/
namespace Go.Proofs.Ytcibndlpnfikhaa
open Go.RowKit
open Go
set_option maxRecDepth 100000
theorem slc_src {w : World} {q : Option Addr} {n cp : Nat} {L : Nat → Int} (h : Slc w q n L) (hn : 0 < n) :
    ∃ a, q = some a ∧ ∀ j v, ((List.range n).map fun i => Value.int .i64 (L i))[j]? = some v → w.cell? (a.add j) = some v := by
  obtain ⟨b, o, rfl, _⟩ := h 0 hn
  refine ⟨⟨b, o, none⟩, rfl, fun j v hj => ?_⟩
  have hjn : j < n := by
    have := (List.getElem?_eq_some_iff.1 hj).1
    simpa using this
  obtain ⟨b', o', e, hc⟩ := h j hjn
  injection e with e
  injection e with e1 e2
  subst e1 e2
  rw [show ((List.range n).map fun i => Value.int .i64 (L i))[j]? = some (Value.int .i64 (L j)) from by simp [hjn]] at hj
  injection hj with hj
  rw [← hj]
  unfold Addr.add
  split
  · rename_i h0; subst h0; simpa using hc
  · exact hc
theorem run_appAll {P : Program} (t ty e : TypeId) (i : TypeInfo) (ht : P.underlying t = some (.slice e)) (hi : P.info? e = some i) (hz : i.zero = some (.int .i64 0)) (hs : i.size = 1) (hb : i.bytes = 8)
    (w : World) (b : Addr) (q : Option Addr) (n cp : Nat) (L : Nat → Int) (hL : Slc w q n L) (hn : n ≤ 1000000) :
    ∃ q' cap w', (Builtin.append_ #[t, t] ty #[.slice (some b) 0 0, .slice q n cp]).run P w = .ok (.slice q' n cap) w' ∧ Below w.heap.size w w' ∧ Slc w' q' n L := by
  rcases Nat.eq_zero_or_pos n with h0 | h0
  · subst h0
    refine ⟨some b, 0, w, ?_, Below.refl _ _, fun i hi => absurd hi (Nat.not_lt_zero _)⟩
    refine run_append_nothing w t t ty e i ht hi (some b) 0 0 (Nat.le_refl _) _ ⟨.inl ⟨e, ht⟩, fun w' => ?_, ?_, ?_, by simp, fun u hu => by cases hu⟩
    · simp [Builtin.lenOf]
    · cases q <;> simp [Builtin.firstCells, loadCells, loadCellsFrom]
    · cases q <;> simp [Builtin.firstCells, loadCells, loadCellsFrom]
  · obtain ⟨a, rfl, ha⟩ := slc_src (cp := cp) hL h0
    have hcap : Builtin.nextslicecap (0 + n) 0 * i.bytes ≤ 281474976710656 := by
      have := nextslicecap_le (need := 0 + n) (old := 0) (by omega)
      rw [hb]; omega
    have hr := run_append_grow w t ty e i _ ht hi hz b 0 0 [] (by simp) (fun j v hj => by cases hj) a n cp ((List.range n).map fun i => Value.int .i64 (L i)) (by simp [hs]) ha (by omega) (by omega) hcap
    rw [Nat.zero_add] at hr
    refine ⟨_, _, _, hr, ((Below.refl _ _).drew).alloc (Nat.le_refl _) _, ?_⟩
    intro j hj
    refine ⟨w.heap.size, 0, rfl, ?_⟩
    rw [Nat.zero_add]
    have hd : w.drew.heap = w.heap := rfl
    refine (cell_of_row _ w.heap.size j (([] : List Value).toArray ++ ((List.range n).map fun i => Value.int .i64 (L i)).toArray ++ Builtin.zeroCells (Value.int .i64 0).cells (grownCap w n 0 e - n)) e (0, 0) (by simp [World.alloc, hd])).trans ?_
    rw [Array.getElem?_append_left (by simp; omega)]
    simp [hj]
theorem info_i64g : (Try.prog.info? 2).map (fun i => (i.zero, i.size, i.bytes)) = some (some (.int .i64 0), 1, 8) := by kernel_rfl
theorem info_intg : (Try.prog.info? 3).map (fun i => (i.zero, i.size, i.bytes)) = some (some (.int .i64 0), 1, 8) := by kernel_rfl
theorem info_open {P : Program} {e : TypeId} (h : (P.info? e).map (fun i => (i.zero, i.size, i.bytes)) = some (some (.int .i64 0), 1, 8)) : ∃ i, P.info? e = some i ∧ i.zero = some (.int .i64 0) ∧ i.size = 1 ∧ i.bytes = 8 := by
  cases e : P.info? e with
  | none => rw [e] at h; cases h
  | some i => rw [e] at h; simp at h; exact ⟨i, rfl, h.1, h.2.1, h.2.2⟩
theorem wp_bsl0_i64 {o : Oper} {a : Act} {w : World} {K : Act → World → Prop} {Q : Exit → Act → World → Prop} (ho : o.op = .buildSlice 24 0 #[])
    (h : K (a.put o.dst (.slice (some ⟨w.heap.size, 0, none⟩) 0 0)) (w.alloc (.cells #[] 2))) : o.wp Try.prog a w K Q := by
  have hr : (Instr.buildSlice 24 0 #[]).run Try.prog w = .ok (.slice (some ⟨w.heap.size, 0, none⟩) 0 0) (w.alloc (.cells #[] 2)) := by
    obtain ⟨i, hi, hz, hs, hb⟩ := info_open info_i64g
    unfold Instr.buildSlice
    simp [Sem.run_bind, run_underlying Try.underlying24, sizeOf, typeInfo, hi, hs, Instr.fill, newRow, newObj, go_sem]
    rfl
  unfold Oper.wp execOp
  simp only [ho, Sem.run_bind, List.map_toArray, List.map_nil, hr, Result.andThen_ok]
  exact h
theorem wp_appAll_i64 {o : Oper} {a : Act} {w : World} {K : Act → World → Prop} {Q : Exit → Act → World → Prop} (s x : Operand)
    (ho : o.op = .call { callee := .builtin .append, args := #[s, x], argTypes := #[24, 24] })
    (b : Addr) (q : Option Addr) (n cp : Nat) (L : Nat → Int) (hs : a.eval s = .slice (some b) 0 0) (hx : a.eval x = .slice q n cp) (hL : Slc w q n L) (hn : n ≤ 1000000)
    (h : ∀ q' cap w', Below w.heap.size w w' → Slc w' q' n L → K (a.put o.dst (.slice q' n cap)) w') : o.wp Try.prog a w K Q := by
  obtain ⟨i, hi, hz, hs', hb⟩ := info_open info_i64g
  obtain ⟨q', cap, w', hr, h1, h2⟩ := run_appAll 24 o.type 2 i Try.underlying24 hi hz hs' hb w b q n cp L hL hn
  unfold Oper.wp execOp
  simp only [ho, resolve, invoke, builtin, Sem.run_bind, Sem.run_pure, Result.andThen_ok, List.map_toArray, List.map_cons, List.map_nil, hs, hx, hr]
  exact h q' cap w' h1 h2
end Go.Proofs.Ytcibndlpnfikhaa
/- Arguments that are arrays of int64 (or structs of such): opened as numbers; a slice of int64 too. Of no one program. -/
namespace Go.Proofs.Ytcibndlpnfikhaa
open Go.RowKit Go.ChangeShapes
def AllInt (cs : List Value) : Prop := ∀ v, v ∈ cs → ∃ z, v = .int .i64 z ∧ (Lit.int .i64 z).wf = true
section
variable {H : Type} {enc : TypeId × Value → H} {P : Program} {w : World} {base : Nat} {spare : Nat → Bool} {held : Bool}
/-- What reads as t is int64 numbers alone. -/
def Ints (enc : TypeId × Value → H) (P : Program) (w : World) (base : Nat) (spare : Nat → Bool) (held : Bool) (t : TypeId) : Prop :=
  ∀ fuel cs x, DataW.trod enc P w base spare held fuel t cs = some x → AllInt cs ∧ x.2 = []
theorem ints_int {t : TypeId} (hu : P.underlying t = some (.int .i64)) : Ints enc P w base spare held t := by
  intro fuel cs x h
  obtain ⟨n, h1, h2, h3⟩ := DataW.trod_int hu h
  subst h1
  refine ⟨fun v hv => ?_, ?_⟩
  · rw [List.mem_singleton] at hv; exact ⟨n, hv, h3⟩
  · rw [h2]
theorem ints_array {t e : TypeId} {n m : Nat} (hu : P.underlying t = some (.array n e)) (hc : P.cellsOf t = n * m) (hm : P.cellsOf e = m) (he : Ints enc P w base spare held e) : Ints enc P w base spare held t := by
  intro fuel cs x h
  obtain ⟨xs, k, rfl, rfl, hl, hx, hi⟩ := DataW.trod_array hu h
  rw [hc] at hl
  rw [hm] at hi
  refine ⟨fun v hv => ?_, ?_⟩
  · obtain ⟨q, hq, rfl⟩ := List.getElem_of_mem hv
    have hm0 : 0 < m := by
      rcases Nat.eq_zero_or_pos m with h0 | h0
      · subst h0; omega
      · exact h0
    have hqm : q / m < n := by rw [Nat.div_lt_iff_lt_mul hm0]; omega
    have hh := hi (q / m) hqm
    rw [List.getElem?_eq_getElem (by omega)] at hh
    refine (he _ _ _ hh).1 _ ?_
    rw [List.mem_iff_getElem?]
    refine ⟨q % m, ?_⟩
    rw [List.getElem?_take_of_lt (Nat.mod_lt _ hm0), List.getElem?_drop, Nat.mul_comm, Nat.div_add_mod]
    exact List.getElem?_eq_getElem hq
  · show xs.flatMap (·.2) = []
    rw [List.flatMap_eq_nil_iff]
    intro y hy
    obtain ⟨q, hq, rfl⟩ := List.getElem_of_mem hy
    have hh := hi q (by omega)
    rw [List.getElem?_eq_getElem hq] at hh
    exact (he _ _ _ hh).2
/-- A struct of two: U's numbers, then D's. -/
theorem ints_struct2 {t : TypeId} {f0 f1 : Field} {a b : Nat} (hu : P.underlying t = some (.struct #[f0, f1])) (hc : P.cellsOf t = a + b) (o0 : f0.offset = 0) (o1 : f1.offset = a) (c0 : P.cellsOf f0.type = a) (c1 : P.cellsOf f1.type = b)
    (h0 : Ints enc P w base spare held f0.type) (h1 : Ints enc P w base spare held f1.type) : Ints enc P w base spare held t := by
  intro fuel cs x h
  obtain ⟨xs, k, rfl, rfl, hl, hx, hi⟩ := DataW.trod_struct hu h
  rw [hc] at hl
  have hx2 : xs.length = 2 := hx
  have g0 := hi 0 f0 rfl
  have g1 := hi 1 f1 rfl
  rw [List.getElem?_eq_getElem (by omega)] at g0 g1
  have r0 := h0 _ _ _ g0
  have r1 := h1 _ _ _ g1
  refine ⟨fun v hv => ?_, ?_⟩
  · obtain ⟨q, hq, rfl⟩ := List.getElem_of_mem hv
    by_cases hqa : q < a
    · refine r0.1 _ ?_
      rw [List.mem_iff_getElem?]
      refine ⟨q, ?_⟩
      rw [c0, o0, List.drop_zero, List.getElem?_take_of_lt hqa]
      exact List.getElem?_eq_getElem hq
    · refine r1.1 _ ?_
      rw [List.mem_iff_getElem?]
      refine ⟨q - a, ?_⟩
      rw [c1, o1, List.getElem?_take_of_lt (by omega), List.getElem?_drop, show a + (q - a) = q by omega]
      exact List.getElem?_eq_getElem hq
  · show xs.flatMap (·.2) = []
    rw [List.flatMap_eq_nil_iff]
    intro y hy
    obtain ⟨q, hq, rfl⟩ := List.getElem_of_mem hy
    obtain rfl | rfl : q = 0 ∨ q = 1 := by omega
    · exact r0.2
    · exact r1.2
/-- A struct whose fields cover its cells. -/
theorem ints_struct {t : TypeId} {fs : Array Field} {n : Nat} (hu : P.underlying t = some (.struct fs)) (hc : P.cellsOf t = n)
    (hcov : ∀ q, q < n → ∃ (j : Nat) (f : Field), fs[j]? = some f ∧ f.offset ≤ q ∧ q < f.offset + P.cellsOf f.type)
    (hI : ∀ (j : Nat) (f : Field), fs[j]? = some f → Ints enc P w base spare held f.type) : Ints enc P w base spare held t := by
  intro fuel cs x h
  obtain ⟨xs, k, rfl, rfl, hl, hx, hi⟩ := DataW.trod_struct hu h
  rw [hc] at hl
  refine ⟨fun v hv => ?_, ?_⟩
  · obtain ⟨q, hq, rfl⟩ := List.getElem_of_mem hv
    obtain ⟨j, f, hj, h1, h2⟩ := hcov q (by omega)
    have hjl : j < xs.length := by rw [hx]; exact (Array.getElem?_eq_some_iff.1 hj).1
    have g := hi j f hj
    rw [List.getElem?_eq_getElem hjl] at g
    refine (hI j f hj _ _ _ g).1 _ ?_
    rw [List.mem_iff_getElem?]
    refine ⟨q - f.offset, ?_⟩
    rw [List.getElem?_take_of_lt (by omega), List.getElem?_drop, show f.offset + (q - f.offset) = q by omega]
    exact List.getElem?_eq_getElem hq
  · show xs.flatMap (·.2) = []
    rw [List.flatMap_eq_nil_iff]
    intro y hy
    obtain ⟨q, hq, rfl⟩ := List.getElem_of_mem hy
    have hq2 : q < fs.size := by rw [← hx]; exact hq
    have g := hi q fs[q] (Array.getElem?_eq_getElem hq2)
    rw [List.getElem?_eq_getElem hq] at g
    exact (hI q _ (Array.getElem?_eq_getElem hq2) _ _ _ g).2
/-- A value of such a type: an aggregate of numbers. -/
theorem open_vec {r : Reach} {b0 n : Nat} {t : TypeId} {v : Value} {d : DataW H} {ps : List MemPlace} (hI : Ints enc P w base spare held t) (hc : P.cellsOf t = n)
    (hu : ∃ u, P.underlying t = some u ∧ (match u with | .struct _ | .array _ _ => true | _ => false) = true) (hval : Value.okWide P w r b0 t v) (hd : DataW.Trod enc P w base spare held t v d ps) :
    ∃ f : Nat → Int, v = .agg (arrv n f) ∧ (∀ i, -9223372036854775808 ≤ f i ∧ f i ≤ 9223372036854775807) ∧ ps = [] := by
  obtain ⟨u, hu1, hu2⟩ := hu
  have hv : ∃ cs, v = .agg cs ∧ cs.size = P.cellsOf t := by
    unfold Value.okWide at hval
    rw [hu1] at hval
    cases u <;> simp at hu2 hval <;> (obtain ⟨cs, h1, h2, _⟩ := hval; exact ⟨cs, h1, h2⟩)
  obtain ⟨cs, rfl, hs⟩ := hv
  rw [hc] at hs
  obtain ⟨fuel, hf⟩ := hd
  obtain ⟨hA, hp⟩ := hI _ _ _ hf
  have hA' : ∀ i, i < n → ∃ z, cs[i]? = some (.int .i64 z) ∧ (Lit.int .i64 z).wf = true := by
    intro i hi
    have hm : cs[i]'(by omega) ∈ (Value.agg cs).cells.toList := by simp [Value.cells]
    obtain ⟨z, hz, hw⟩ := hA _ hm
    exact ⟨z, by rw [Array.getElem?_eq_getElem (by omega), hz], hw⟩
  refine ⟨fun i => if h : i < n then Classical.choose (hA' i h) else 0, ?_, fun i => ?_, hp⟩
  · congr 1
    apply Array.ext_getElem?
    intro i
    by_cases hi : i < n
    · rw [arrv_get hi]
      simp only [dif_pos hi]
      exact (Classical.choose_spec (hA' i hi)).1
    · rw [Array.getElem?_eq_none (by omega), Array.getElem?_eq_none (by rw [arrv_size]; omega)]
  · by_cases hi : i < n
    · simp only [dif_pos hi]
      exact Go.bounds_i64 (Classical.choose_spec (hA' i hi)).2
    · simp only [dif_neg hi]; omega
end
end Go.Proofs.Ytcibndlpnfikhaa
/- The join of a law: arguments that read before the call read behind it, if nothing that was there has turned. -/
namespace Go.Proofs.Ytcibndlpnfikhaa
open Go.ChangeShapes Go.WideShapes Go.ChangeAt Go.RowKit
theorem trodAll_stays {H : Type} {enc : TypeId × Value → H} {P : Program} (hl : laidOutB P = true) {W W' : World} (hb : Below W.heap.size W W') {sp : Nat → Bool} : ∀ {ts : List TypeId} {vs : List Value} {ds : List (DataW H)} {p : List MemPlace},
    (ts.all fun t => P.readableRec t && decide (t < P.types.size)) = true → DataW.TrodAll enc P W 0 (fun _ => true) true ts vs ds p → (∀ x ∈ p, x.block < W.heap.size) → (∀ x ∈ p, sp x.block = true) → DataW.TrodAll enc P W' 0 sp true ts vs ds p
  | [], [], [], _, _, h, _, _ => h
  | t :: ts, v :: vs, d :: ds, p, ht, h, hlt, hsp => by
    obtain ⟨q, r, h1, h2, rfl⟩ := h
    rw [List.all_cons, Bool.and_eq_true, Bool.and_eq_true, decide_eq_true_eq] at ht
    exact ⟨q, r, WideElems.Trod_stays hl ht.1.1 ht.1.2 h1 (fun x hx => hb.same (hlt x (List.mem_append_left _ hx))) (fun x hx => hsp x (List.mem_append_left _ hx)),
      trodAll_stays hl hb ht.2 h2 (fun x hx => hlt x (List.mem_append_right _ hx)) (fun x hx => hsp x (List.mem_append_right _ hx)), rfl⟩
  | [], _ :: _, _, _, _, h, _, _ => by cases ‹List (DataW H)› <;> exact h.elim
  | [], [], _ :: _, _, _, h, _, _ => h.elim
  | _ :: _, [], _, _, _, h, _, _ => by cases ‹List (DataW H)› <;> exact h.elim
  | _ :: _, _ :: _, [], _, _, h, _, _ => h.elim
/-- What a law owes behind the call: it answers true, and nothing that was there has turned. -/
theorem law_post {H : Type} {enc : TypeId × Value → H} {P : Program} {f : Func} {s : ChangeSpec} {apart fresh handsOn again : Bool} {W W' : World} {args : Array Value} {ds gs : List (DataW H)} {before : List MemPlace} {tb : TypeId}
    (hW : DataW.Whole enc P f.params.toList s.vars apart W args.toList ds gs before) (hv : s.vars = []) (hfn : s.fn H ds = { results := [.lit (.bool true)], args := ds })
    (hu : P.underlying tb = some .bool) (hr : f.resultTypes = #[tb]) (hl : laidOutB P = true) (hts : (f.params.toList.all fun t => P.readableRec t && decide (t < P.types.size)) = true) (hb : Below W.heap.size W W') :
    s.post enc P f apart fresh handsOn again W args (.bool true) W' := by
  have hlt : ∀ x ∈ before, x.block < W.heap.size := fun x hx => hW.lt x hx
  have hW0 := hW
  obtain ⟨p, q, hA, hV, rfl, hfz, hnd⟩ := hW
  rw [hv] at hV
  obtain ⟨rfl, rfl⟩ := trodVars_none hV
  rw [List.append_nil] at hlt
  have hargs : ∀ sp : Nat → Bool, (∀ x ∈ p, sp x.block = true) → DataW.TrodAll enc P W' 0 sp true f.params.toList args.toList ds p := fun sp hsp => trodAll_stays hl hb hts hA hlt hsp
  have hvars : ∀ sp : Nat → Bool, DataW.TrodVars enc P W' sp s.vars ([] : List (DataW H)) [] := fun sp => by rw [hv]; exact rfl
  have hres : ∀ (b : Nat) (sp : Nat → Bool) (hd : Bool), DataW.TrodAll enc P W' b sp hd f.resultTypes.toList ((Value.bool true).resultList f.resultTypes.size) [.lit (.bool true)] [] := fun b sp hd => by
    rw [hr]; exact trodAll_mk1 (shut_bool hu _)
  have hold : ∀ x ∈ p, (fun b => decide (b < W.heap.size)) x.block = true := fun x hx => by simpa using hlt x hx
  have hfn' : s.fn H (ds ++ []) = { results := [.lit (.bool true)], args := ds } := by rw [List.append_nil]; exact hfn
  refine ⟨ds, [], p ++ [], [], p, [], hW0, ?_, ?_, ?_, World.keptBut_mono (fun x hx => ⟨hx, ?_⟩) (hb.frame (· ∈ p ++ [])), fun _ => ?_⟩
  · rw [hfn']; exact hres _ _ _
  · rw [hfn']; exact hargs _ hold
  · rw [hfn']; exact hvars _
  · rw [List.append_nil] at hx; exact Or.inr (.inl hx)
  · refine ⟨ok_one hr rfl (okWide_bool_mk hu _), _, _, ([] ++ p) ++ [], ⟨[] ++ p, [], trodAll_append (hargs _ (fun _ _ => rfl)) (hres _ _ _), hvars _, rfl, ?_, ?_⟩, ?_⟩
    · intro b off hx
      have hin : MemPlace.cell b off ∈ p := by simpa using hx
      rw [hb.frozen (p := ⟨b, off, none⟩) (hlt _ hin)]
      exact hfz b off (by simpa using hin)
    · intro ha
      simpa using hnd ha
    · intro x hx _
      simpa using hx
/-- A slice of int64 (or of int: the numbers are of the same kind), opened. -/
theorem open_slc {H : Type} {enc : TypeId × Value → H} {P : Program} {w : World} {base : Nat} {spare : Nat → Bool} {held : Bool} {r : Reach} {b0 : Nat} {t e : TypeId} {v : Value} {d : DataW H} {ps : List MemPlace} (ht : P.underlying t = some (.slice e)) (he : P.underlying e = some (.int .i64)) (hc : P.cellsOf e = 1)
    (hval : Value.okWide P w r b0 t v) (hd : DataW.Trod enc P w base spare held t v d ps) :
    ∃ p n cp L, v = .slice p n cp ∧ Slc w p n L ∧ n ≤ 9223372036854775807 ∧ ∀ i, -9223372036854775808 ≤ L i ∧ L i ≤ 9223372036854775807 := by
  obtain ⟨a, n, cp, rfl⟩ := okWide_slice ht hval
  obtain ⟨fuel, hf⟩ := hd
  rcases open_ints ht he hc hf with ⟨h0, _⟩ | ⟨ad, len, cap, zs, h0, _, hlc, hcm, hlen, _, hcell, hwf⟩
  · simp [Value.cells] at h0
    obtain ⟨rfl, rfl, rfl⟩ := h0
    exact ⟨none, 0, 0, fun _ => 0, rfl, fun i hi => by omega, by omega, fun _ => ⟨by show (-9223372036854775808 : Int) ≤ 0; omega, by show (0 : Int) ≤ 9223372036854775807; omega⟩⟩
  · simp [Value.cells] at h0
    obtain ⟨rfl, rfl, rfl⟩ := h0
    have hz : n ≤ zs.length := by rw [hlen]; split <;> omega
    refine ⟨some ad, n, cp, fun i => zs.getD i 0, rfl, fun i hi => ?_, by unfold maxLen at hcm; omega, fun i => ?_⟩
    · obtain ⟨b, off, rfl, hb⟩ := ints_at hcell (by omega)
      exact ⟨b, off, rfl, hb i (by omega)⟩
    · by_cases hi : i < zs.length
      · have := Go.bounds_i64 (hwf _ (List.getElem_mem hi))
        simpa [hi] using this
      · simp [List.getElem?_eq_none (by omega : zs.length ≤ i)]
section
variable {H : Type} {enc : TypeId × Value → H} {w : World} {base : Nat} {spare : Nat → Bool} {held : Bool}
theorem cells_of_size {P : Program} {t : TypeId} {n : Nat} (h : (P.info? t).map (·.size) = some n) : P.cellsOf t = n := by
  unfold Program.cellsOf
  cases e : P.info? t with
  | none => rw [e] at h; cases h
  | some i => rw [e] at h; simpa using h
theorem cells_i64 : Try.prog.cellsOf 2 = 1 := cells_of_size (by kernel_rfl)
theorem cells_col : Try.prog.cellsOf 22 = 24 := cells_of_size (by kernel_rfl)
theorem cells_int : Try.prog.cellsOf 3 = 1 := cells_of_size (by kernel_rfl)
theorem ints_i64 : Ints enc Try.prog w base spare held 2 := ints_int Try.underlying2
theorem ints_col : Ints enc Try.prog w base spare held 22 := ints_array (n := 24) (m := 1) Try.underlying22 cells_col cells_i64 ints_i64
theorem cells_st : Try.prog.cellsOf 23 = 24 := cells_of_size (by kernel_rfl)
theorem ints_st : Ints enc Try.prog w base spare held 23 := ints_array (n := 24) (m := 1) Try.underlying23 cells_st cells_i64 ints_i64
theorem own_knob : ownKnob Try.prog.godebug = none := by kernel_rfl
theorem laid_out : laidOutB Try.prog = true := by kernel_rfl
end
end Go.Proofs.Ytcibndlpnfikhaa
