/- The walk of OutputTimes. -/
import Derived.Test.YtpoiobgpggiebaaLx27
namespace Go.Proofs.Ytpoiobgpggiebaa
open Go.RowKit
open Go
set_option maxRecDepth 100000
set_option maxHeartbeats 16000000 in
theorem times27_walk (z : Int) (S : Nat → Int) (t : Int) (q : Option Addr) (n cp : Nat) (I : Nat → Int) (w : World) (hI : Slc w q (8 * n) I) :
    Calls Try.prog 5 #[.int .i64 z, .agg (arrv 24 S), .slice q n cp, .int .i64 t] w fun e w' => e = .returned (.bool true) ∧ Below w.heap.size w w' := by
  have L0 := Lib.hid ((bs_nil w).lay 32 24 S)
  have HI := Lib.hid hI
  clear hI
  go_enter Try.func5, Try.ntmps5
  go_upto_region 3 with (go_at_call 9; (refine (awake27_any _).mono ?_); rintro e w1 ⟨rfl, hb1⟩)
  have L1 := Lib.hid (L0.out.down hb1)
  clear hb1 L0
  have P0 := L1.out.e0
  by_cases hg : 1 ≤ z ∧ z ≤ 64 ∧ (1 : Int) ≤ 1073741824 ∧ (1073741824 : Int) ≤ 1073741824 ∧ n ≤ 20
  · have HG := Lib.hid hg
    refine wp_region_lit ?_
    refine wpList_val (v := ?_) rfl ?_ ?_
    rotate_left
    · (go_simp; (try (first | with_reducible rfl | (constructor <;> with_reducible rfl))))
    (try simp only [Act.put, nA, nB, nC])
    refine wpList_val (v := ?_) rfl ?_ ?_
    rotate_left
    · refine Eq.trans (run_load_row 32 (.tmp 5) (by rfl) (w.heap.size) (by rfl) _ _ _ _ (P0) Try.underlying32 rfl (ist.trans (by rw [arrv_size]))) ?_; with_reducible rfl
    (try simp only [Act.put, nA, nB, nC])
    refine wpList_val (v := ?_) rfl ?_ ?_
    rotate_left
    · (go_simp; (try (first | with_reducible rfl | (constructor <;> with_reducible rfl))))
    (try simp only [Act.put, nA, nB, nC])
    refine wpList_step (fun K hK => ?_)
    go_simp
    (refine (fill_ok z 1073741824 S q n cp I _ HG.out.1 HG.out.2.1 HG.out.2.2.1 HG.out.2.2.2.1 HG.out.2.2.2.2 (HI.out.below L1.out.below)).mono ?_); rintro e w2 ⟨pb, m, L, v, rfl, hf⟩; have F0 := Lib.hid hf; clear hf
    (try dsimp only)
    (try simp only [Act.put, nA, nB, nC])
    refine hK _ _ ?_
    clear hK K
    refine wpList_val (v := ?_) rfl ?_ ?_
    rotate_left
    · (go_simp; (try (first | with_reducible rfl | (constructor <;> with_reducible rfl))))
    (try simp only [Act.put, nA, nB, nC])
    refine wpList_nil ?_
    have OK := Lib.hid F0.out.ok
    have hN2 := OK.out.most
    have hN3 := HG.out.2.1
    clear hg P0
    go_upto_region 6 with fail
    refine wp_region_lit ?_
    refine wpList_val (v := ?_) rfl ?_ ?_
    rotate_left
    · (go_simp; (try (first | with_reducible rfl | (constructor <;> with_reducible rfl))))
    (try simp only [Act.put, nA, nB, nC])
    refine wpList_step (fun K hK => ?_)
    go_simp
    (refine (all_out pb z 1073741824 (m + 1) L v _ F0.out.pd (by omega)).mono ?_); rintro e w3 ⟨vl, rfl, hb, ho, gl, hv, hg⟩; obtain ⟨cl, rfl, hcl, hS⟩ := fi_of_all F0.out L1.out.below [⟨w.heap.size, 32, 24, S⟩] (fun e he => ⟨(L1.out.ex e he).1, (L1.out.ex e he).2.1⟩) hb ho hv hg; have S0 := Lib.hid hS; clear hb ho hv hg hS F0 L1
    (try dsimp only)
    (try simp only [Act.put, nA, nB, nC])
    refine hK _ _ ?_
    clear hK K
    refine wpList_val (v := ?_) rfl ?_ ?_
    rotate_left
    · (go_simp; (try (first | with_reducible rfl | (constructor <;> with_reducible rfl))))
    (try simp only [Act.put, nA, nB, nC])
    refine wpList_nil ?_
    go_upto_region 8 with fail
    generalize w3.alloc (.cells #[.bool false] 29) = W0 at *
    obtain ⟨bc, hbc⟩ : ∃ x, w3.heap.size = x := ⟨_, rfl⟩
    rw [hbc] at S0 ⊢
    clear hbc
    have P1 := S0.out.e0
    have l00 := S0.out.s0 (i := 0) (by omega) (j := 0) (by decide)
    obtain ⟨y0, hy0⟩ : ∃ x, L 0 0 = x := ⟨_, rfl⟩
    rw [hy0] at l00
    have HY := Lib.hid hy0
    clear hy0
    by_cases hx : t < y0
    · have hk := lastK_rise OK.out (t := t) (by rw [HY.out]; exact hx)
      have HK := Lib.hid hk
      have e1 : decide (t < y0) = true := by simpa using hx
      clear hk hx l00
      refine wp_region_lit ?_
      refine wpList_val (v := ?_) rfl ?_ ?_
      rotate_left
      · (go_simp; (try (first | with_reducible rfl | (constructor <;> with_reducible rfl))))
      (try simp only [Act.put, nA, nB, nC])
      refine wpList_val (v := ?_) rfl ?_ ?_
      rotate_left
      · (go_simp; (try (first | with_reducible rfl | (constructor <;> with_reducible rfl))))
      (try simp only [Act.put, nA, nB, nC])
      refine wpList_val (v := ?_) rfl ?_ ?_
      rotate_left
      · refine Eq.trans (run_load_row 32 (.tmp 5) (by rfl) (w.heap.size) (by rfl) _ _ _ _ (P1) Try.underlying32 rfl (ist.trans (by rw [arrv_size]))) ?_; with_reducible rfl
      (try simp only [Act.put, nA, nB, nC])
      refine wpList_val (v := ?_) rfl ?_ ?_
      rotate_left
      · (go_simp; (try (first | with_reducible rfl | (constructor <;> with_reducible rfl))))
      (try simp only [Act.put, nA, nB, nC])
      refine wpList_step (fun K hK => ?_)
      go_simp
      (refine (corr_none ⟨bc, 0, none⟩ false pb z 1073741824 (m + 1) L v S t _ S0.out.fc S0.out.ff S0.out.pd S0.out.ne S0.out.nv (by omega) HK.out).mono ?_); rintro e w4 ⟨rfl, hr⟩; have S1 := Lib.hid (S0.out.ear hr); clear hr S0 P1
      (try dsimp only)
      (try simp only [Act.put, nA, nB, nC])
      refine hK _ _ ?_
      clear hK K
      refine wpList_val (v := ?_) rfl ?_ ?_
      rotate_left
      · (go_simp; (try (first | with_reducible rfl | (constructor <;> with_reducible rfl))))
      (try simp only [Act.put, nA, nB, nC])
      refine wpList_nil ?_
      have l00 := S1.out.s0 (i := 0) (by omega) (j := 0) (by decide)
      rw [HY.out] at l00
      go_upto_region 10 with fail
      clear l00 e1
      refine wp_region_lit ?_
      refine wpList_val (v := ?_) rfl ?_ ?_
      rotate_left
      · (go_simp; (try (first | with_reducible rfl | (constructor <;> with_reducible rfl))))
      (try simp only [Act.put, nA, nB, nC])
      refine wpList_step (fun K hK => ?_)
      go_simp
      (refine (all_out pb z 1073741824 (m + 1) L v _ S1.out.pd (by omega)).mono ?_); rintro e w5 ⟨vb, rfl, hb, ho, gb, hv, hg⟩; obtain ⟨cb, rfl, hcb, hS⟩ := S1.out.all hb ho hv hg; have S2 := Lib.hid hS; clear hb ho hv hg hS S1
      (try dsimp only)
      (try simp only [Act.put, nA, nB, nC])
      refine hK _ _ ?_
      clear hK K
      refine wpList_val (v := ?_) rfl ?_ ?_
      rotate_left
      · (go_simp; (try (first | with_reducible rfl | (constructor <;> with_reducible rfl))))
      (try simp only [Act.put, nA, nB, nC])
      refine wpList_nil ?_
      obtain ⟨N, hN⟩ : ∃ x, m + 1 = x := ⟨_, rfl⟩
      rw [hN] at S2 ⊢
      have hN4 : (N : Int) ≤ 64 := by omega
      have n0 : (0 : Int) ≤ (N : Int) := Int.natCast_nonneg _
      go_upto_region 13 with fail
      go_loopw [14, 15] (fun sm i wr => ∃ k : Nat, k ≤ N ∧ sm = .bool true ∧ i = .int .i64 k ∧ Hid (FiR bc false pb z 1073741824 v N L [⟨w.heap.size, 32, 24, S⟩] [⟨gb, N, L⟩, ⟨gl, N, L⟩] w wr)) (fun _ i _ => N - (intOf i).toNat)
      case atStart => exact ⟨0, Nat.zero_le _, by first | rfl | simp, by go_num, S2⟩
      case round =>
        obtain ⟨k, hk, rfl, rfl, R⟩ := hrel
        clear S2
        have k0 : (0 : Int) ≤ (k : Int) := Int.natCast_nonneg _
        by_cases hlt : k < N
        · have d1 : decide (k < N) = true := by simpa using hlt
          have d2 : decide ((k : Int) < (N : Int)) = true := by simpa using hlt
          have k1 : (k : Int) < (N : Int) := by omega
          go_upto_region 15 with fail
          have HS := Lib.hid R.out.drew
          clear R
          (try simp only [Act.put])
          refine wp_region_M (fun w' => (∀ j, j < 11 → w'.cell? ⟨gl, k * 11 + j, none⟩ = some (.int .i64 (L k j))) ∧ (∀ j, j < 11 → w'.cell? ⟨gb, k * 11 + j, none⟩ = some (.int .i64 (L k j)))) 9 (by kernel_rfl) ?_ (fun hHeld => ?_)
          · exact ⟨fun j hj => HS.out.s1 hlt hj, fun j hj => HS.out.s0 hlt hj⟩
          refine wpAnyM_take 0 (v := ?_) rfl (by kernel_rfl) (fun _ _ _ h => h) (Or.inl ⟨by rfl, ?_⟩) (by assumption) ?_
          rotate_left
          · (intro wx hSw; (try dsimp only at hSw); go_simp; (try with_reducible rfl))
          (try simp only [Act.put, nA, nB, nC])
          refine wpAnyM_take 1 (v := ?_) rfl (by kernel_rfl) (fun _ _ _ h => h) (Or.inl ⟨by rfl, ?_⟩) (by assumption) ?_
          rotate_left
          · (intro wx hSw; (try dsimp only at hSw); go_simp; (try with_reducible rfl))
          (try simp only [Act.put, nA, nB, nC])
          refine wpAnyM_take 2 (v := ?_) rfl (by kernel_rfl) (fun _ _ _ h => h) (Or.inl ⟨by rfl, ?_⟩) (by assumption) ?_
          rotate_left
          · (intro wx hSw; (try dsimp only at hSw); go_simp; (try with_reducible rfl))
          (try simp only [Act.put, nA, nB, nC])
          refine wpAnyM_take 3 (v := ?_) rfl (by kernel_rfl) (fun _ _ _ h => h) (Or.inl ⟨by rfl, ?_⟩) (by assumption) ?_
          rotate_left
          · (intro wx hSw; refine Eq.trans (run_load_out (.tmp 62) (by rfl) gl (k * 11) (by rfl) (L k) hSw.1) ?_; with_reducible rfl)
          (try simp only [Act.put, nA, nB, nC])
          refine wpAnyM_take 4 (v := ?_) rfl (by kernel_rfl) (fun _ _ _ h => h) (Or.inl ⟨by rfl, ?_⟩) (by assumption) ?_
          rotate_left
          · (intro wx hSw; (try dsimp only at hSw); go_simp; (try with_reducible rfl))
          (try simp only [Act.put, nA, nB, nC])
          refine wpAnyM_take 5 (v := ?_) rfl (by kernel_rfl) (fun _ _ _ h => h) (Or.inl ⟨by rfl, ?_⟩) (by assumption) ?_
          rotate_left
          · (intro wx hSw; (try dsimp only at hSw); go_simp; (try with_reducible rfl))
          (try simp only [Act.put, nA, nB, nC])
          refine wpAnyM_take 6 (v := ?_) rfl (by kernel_rfl) (fun _ _ _ h => h) (Or.inl ⟨by rfl, ?_⟩) (by assumption) ?_
          rotate_left
          · (intro wx hSw; (try dsimp only at hSw); go_simp; (try with_reducible rfl))
          (try simp only [Act.put, nA, nB, nC])
          refine wpAnyM_take 7 (v := ?_) rfl (by kernel_rfl) (fun _ _ _ h => h) (Or.inl ⟨by rfl, ?_⟩) (by assumption) ?_
          rotate_left
          · (intro wx hSw; refine Eq.trans (run_load_out (.tmp 66) (by rfl) gb (k * 11) (by rfl) (L k) hSw.2) ?_; with_reducible rfl)
          (try simp only [Act.put, nA, nB, nC])
          refine wpAnyM_take 8 (v := ?_) rfl (by kernel_rfl) (fun _ _ _ h => h) (Or.inl ⟨by rfl, ?_⟩) (by assumption) ?_
          rotate_left
          · (intro wx hSw; refine Eq.trans (run_op_eqlOut (.tmp 63) (.tmp 67) (by rfl) (by rfl) (by rfl) rfl) ?_; with_reducible rfl)
          (try simp only [Act.put, nA, nB, nC])
          refine wpAnyM_one 9 rfl (by kernel_rfl) (fun K hK => ?_)
          go_simp
          refine hK.out _ _ (.inl (by kernel_rfl)) (fun _ => ?_)
          clear hK K
          (try simp only [Act.put, nA, nB, nC])
          refine wpAnyM_done (by kernel_rfl) ?_ _
          go_wp2_with fail
          go_roundw
          case rel => exact ⟨k + 1, by omega, rfl, by go_num, HS⟩
          case measure => simp [intOf]; omega
        · obtain rfl : k = N := by omega
          have d1 : decide (k < k) = false := by simp
          have d2 : decide ((k : Int) < (k : Int)) = false := by simp
          go_wp2_with fail
          go_ret
          exact ⟨rfl, R.out.below⟩
    · have hk := lastK_pos (L := L) (t := t) (by rw [HY.out]; omega) m
      have hkb := lastK_bd L t (m + 1)
      obtain ⟨A, hA⟩ : ∃ A : Nat, lastK L t (m + 1) = (A : Int) := ⟨(lastK L t (m + 1)).toNat, by omega⟩
      have hAm : A < m + 1 := by omega
      have HK := Lib.hid hA
      have e1 : decide (t < y0) = false := by simpa using hx
      have HT := Lib.hid (show ∀ j, 5 ≤ j → j < 11 → eaL (crF 1073741824 (ofF S t) (L A)) L (m + 1) A j = ofF S t j by
        intro j h1 h2
        obtain ⟨S0', t0', e⟩ := OK.out.of A hAm
        unfold eaL
        rw [if_pos hAm, e]
        exact times_eq S S0' t t0' h1 h2)
      have hn0 : nK L t (m + 1) = (A : Int) := by unfold nK; rw [hA, if_neg (by omega)]
      have HN := Lib.hid hn0
      clear hk hkb hA hn0 hx l00
      refine wp_region_lit ?_
      refine wpList_val (v := ?_) rfl ?_ ?_
      rotate_left
      · (go_simp; (try (first | with_reducible rfl | (constructor <;> with_reducible rfl))))
      (try simp only [Act.put, nA, nB, nC])
      refine wpList_val (v := ?_) rfl ?_ ?_
      rotate_left
      · (go_simp; (try (first | with_reducible rfl | (constructor <;> with_reducible rfl))))
      (try simp only [Act.put, nA, nB, nC])
      refine wpList_val (v := ?_) rfl ?_ ?_
      rotate_left
      · refine Eq.trans (run_load_row 32 (.tmp 5) (by rfl) (w.heap.size) (by rfl) _ _ _ _ (P1) Try.underlying32 rfl (ist.trans (by rw [arrv_size]))) ?_; with_reducible rfl
      (try simp only [Act.put, nA, nB, nC])
      refine wpList_val (v := ?_) rfl ?_ ?_
      rotate_left
      · (go_simp; (try (first | with_reducible rfl | (constructor <;> with_reducible rfl))))
      (try simp only [Act.put, nA, nB, nC])
      refine wpList_step (fun K hK => ?_)
      go_simp
      (refine (corr_ok ⟨bc, 0, none⟩ false pb z 1073741824 (m + 1) L v S t _ S0.out.fc S0.out.ff S0.out.pd S0.out.ne S0.out.nv (by omega) A HK.out).mono ?_); rintro e w4 ⟨rfl, hr⟩; have S1 := Lib.hid (S0.out.ear hr); clear hr S0 P1
      (try dsimp only)
      (try simp only [Act.put, nA, nB, nC])
      refine hK _ _ ?_
      clear hK K
      refine wpList_val (v := ?_) rfl ?_ ?_
      rotate_left
      · (go_simp; (try (first | with_reducible rfl | (constructor <;> with_reducible rfl))))
      (try simp only [Act.put, nA, nB, nC])
      refine wpList_nil ?_
      obtain ⟨L2, hL2⟩ : ∃ x, eaL (crF 1073741824 (ofF S t) (L A)) L (m + 1) = x := ⟨_, rfl⟩
      rw [hL2] at S1 HT
      clear hL2
      obtain ⟨H, hH⟩ : ∃ x, (false || crH 1073741824 S t (L A) || orB (fun i => eaH (crF 1073741824 (ofF S t) (L A)) (crFH 1073741824 (ofF S t) (L A)) (L i)) (m + 1)) = x := ⟨_, rfl⟩
      rw [hH] at S1
      clear hH
      have l00 := S1.out.s0 (i := 0) (by omega) (j := 0) (by decide)
      rw [HY.out] at l00
      obtain ⟨N, hN⟩ : ∃ x, m + 1 = x := ⟨_, rfl⟩
      rw [hN] at S1 HN hAm ⊢
      have hN4 : (N : Int) ≤ 64 := by omega
      have n0 : (0 : Int) ≤ (N : Int) := Int.natCast_nonneg _
      go_upto_region 19 with fail
      clear l00 e1
      go_loopw [16, 17] (fun nn i wr => ∃ (k : Nat) (B : Int), k ≤ N ∧ nn = .int .i64 B ∧ B = nK L t k ∧ i = .int .i64 k ∧ Hid (FiR bc H pb z 1073741824 v N L2 [⟨w.heap.size, 32, 24, S⟩] [⟨gl, N, L⟩] w wr)) (fun _ i _ => N - (intOf i).toNat)
      case atStart => exact ⟨0, 0, Nat.zero_le _, rfl, rfl, by go_num, S1⟩
      case round =>
        obtain ⟨k, B, hk, rfl, hB, rfl, R⟩ := hrel
        clear S1
        have k0 : (0 : Int) ≤ (k : Int) := Int.natCast_nonneg _
        by_cases hlt : k < N
        · have d1 : decide (k < N) = true := by simpa using hlt
          have d2 : decide ((k : Int) < (N : Int)) = true := by simpa using hlt
          have k1 : (k : Int) < (N : Int) := by omega
          have cy : wr.cell? ⟨gl, k * 11, none⟩ = some (.int .i64 (L k 0)) := R.out.s0 hlt (j := 0) (by decide)
          by_cases hy : L k 0 ≤ t
          · have HB := Lib.hid (nK_yes hy)
            obtain ⟨y, hyy⟩ : ∃ x, L k 0 = x := ⟨_, rfl⟩
            rw [hyy] at cy hy
            have e2 : decide (y ≤ t) = true := by simpa using hy
            clear hyy hy hB
            go_wp2_with fail
            go_roundw
            case rel => exact ⟨k + 1, _, by omega, rfl, HB.out.symm, by go_num, R⟩
            case measure => simp [intOf]; omega
          · have HB := Lib.hid ((nK_no hy).trans hB.symm)
            obtain ⟨y, hyy⟩ : ∃ x, L k 0 = x := ⟨_, rfl⟩
            rw [hyy] at cy hy
            have e2 : decide (y ≤ t) = false := by simpa using hy
            clear hyy hy hB
            go_wp2_with fail
            go_roundw
            case rel => exact ⟨k + 1, _, by omega, rfl, HB.out.symm, by go_num, R⟩
            case measure => simp [intOf]; omega
        · obtain rfl : k = N := by omega
          rw [HN.out] at hB
          subst hB
          have d1 : decide (k < k) = false := by simp
          have d2 : decide ((k : Int) < (k : Int)) = false := by simp
          go_upto_region 23 with fail
          refine wp_region_lit ?_
          refine wpList_val (v := ?_) rfl ?_ ?_
          rotate_left
          · (go_simp; (try (first | with_reducible rfl | (constructor <;> with_reducible rfl))))
          (try simp only [Act.put, nA, nB, nC])
          refine wpList_step (fun K hK => ?_)
          go_simp
          (refine (all_out pb z 1073741824 k L2 v _ R.out.pd (by omega)).mono ?_); rintro e w5 ⟨vb, rfl, hb, ho, gb, hv, hg⟩; obtain ⟨cb, rfl, hcb, hS⟩ := R.out.all hb ho hv hg; have S2 := Lib.hid hS; clear hb ho hv hg hS R
          (try dsimp only)
          (try simp only [Act.put, nA, nB, nC])
          refine hK _ _ ?_
          clear hK K
          refine wpList_val (v := ?_) rfl ?_ ?_
          rotate_left
          · (go_simp; (try (first | with_reducible rfl | (constructor <;> with_reducible rfl))))
          (try simp only [Act.put, nA, nB, nC])
          refine wpList_nil ?_
          have P1 := S2.out.e0
          go_upto_region 24 with fail
          refine wp_region_lit ?_
          refine wpList_val (v := ?_) rfl ?_ ?_
          rotate_left
          · (go_simp; (try (first | with_reducible rfl | (constructor <;> with_reducible rfl))))
          (try simp only [Act.put, nA, nB, nC])
          refine wpList_val (v := ?_) rfl ?_ ?_
          rotate_left
          · refine Eq.trans (run_load_row 32 (.tmp 5) (by rfl) (w.heap.size) (by rfl) _ _ _ _ (P1) Try.underlying32 rfl (ist.trans (by rw [arrv_size]))) ?_; with_reducible rfl
          (try simp only [Act.put, nA, nB, nC])
          refine wpList_val (v := ?_) rfl ?_ ?_
          rotate_left
          · (go_simp; (try (first | with_reducible rfl | (constructor <;> with_reducible rfl))))
          (try simp only [Act.put, nA, nB, nC])
          refine wpList_step (fun K hK => ?_)
          go_simp
          (refine (outof_any ⟨bc, 0, none⟩ H S t _ S2.out.fc S2.out.ff).mono ?_); rintro e w6 ⟨rfl, hu⟩; have S3 := Lib.hid (S2.out.upd hu); clear hu S2 P1; have NN := Lib.hid (S3.out.putO (ofF S t))
          (try dsimp only)
          (try simp only [Act.put, nA, nB, nC])
          refine hK _ _ ?_
          clear hK K
          refine wpList_act (v := ?_) (w' := ?_) rfl ?_ ?_
          rotate_left 2
          · (go_simp; (try (first | with_reducible rfl | (constructor <;> with_reducible rfl))))
          (try simp only [Act.put, nA, nB, nC])
          refine wpList_done (w' := ?_) rfl ?_ ?_
          rotate_left
          · (refine Eq.trans (run_store_row 49 (.tmp 19) (.tmp 93) (by rfl) (w6.heap.size) (by rfl) (by rfl) NN.out.1 (iou.trans rfl)) ?_; with_reducible rfl)
          (try simp only [Act.put, nA, nB, nC])
          refine wpList_nil ?_
          have S4 := Lib.hid NN.out.2
          generalize (w6.alloc (.cells #[.int .i64 0, .int .i64 0, .int .i64 0, .int .i64 0, .int .i64 0, .int .i64 0, .int .i64 0, .int .i64 0, .int .i64 0, .int .i64 0, .int .i64 0] 49)).setRow w6.heap.size (arrv 11 (ofF S t)) = W4 at *
          clear NN S3
          obtain ⟨b19, hb19⟩ : ∃ x, w6.heap.size = x := ⟨_, rfl⟩
          rw [hb19] at S4 ⊢
          clear hb19
          obtain ⟨E, hE⟩ : ∃ x, ofF S t = x := ⟨_, rfl⟩
          rw [hE] at S4 HT ⊢
          clear hE
          obtain ⟨H2, hH2⟩ : ∃ x, (H || keepH S) = x := ⟨_, rfl⟩
          rw [hH2] at S4
          clear hH2
          have A0 : (0 : Int) ≤ (A : Int) := Int.natCast_nonneg _
          have A1 : (A : Int) < (k : Int) := by omega
          go_upto_region 26 with fail
          go_loopw [20] (fun i wr => ∃ j : Nat, j ≤ 3 ∧ i = .int .i64 j ∧ Hid (FiR bc H2 pb z 1073741824 v k L2 [⟨b19, 49, 11, E⟩, ⟨w.heap.size, 32, 24, S⟩] [⟨gb, k, L2⟩, ⟨gl, k, L⟩] w wr)) (fun i _ => 3 - (intOf i).toNat)
          case atStart => exact ⟨0, Nat.zero_le _, rfl, S4⟩
          case round =>
            obtain ⟨j, hj, rfl, R⟩ := hrel
            clear S4
            have j0 : (0 : Int) ≤ (j : Int) := Int.natCast_nonneg _
            by_cases hjl : j < 3
            · have g1 : decide ((j : Int) < 3) = true := by simp; omega
              have j1 : (j : Int) < 3 := by omega
              have c1 := R.out.s0 (i := A) hAm (j := 5 + j) (by omega)
              have c2 := R.out.s0 (i := A) hAm (j := 8 + j) (by omega)
              have x1 := R.out.e0.cell (i := 5 + j) (by omega)
              have x2 := R.out.e0.cell (i := 8 + j) (by omega)
              rw [HT.out (5 + j) (by omega) (by omega)] at c1
              rw [HT.out (8 + j) (by omega) (by omega)] at c2
              obtain ⟨V1, hV1⟩ : ∃ x, E (5 + j) = x := ⟨_, rfl⟩
              obtain ⟨V2, hV2⟩ : ∃ x, E (8 + j) = x := ⟨_, rfl⟩
              rw [hV1] at c1 x1
              rw [hV2] at c2 x2
              rw [← Nat.add_assoc] at c1 c2
              clear hV1 hV2
              have q1 : (V1 != V1) = false := by simp
              have q2 : (V2 != V2) = false := by simp
              go_upto_region 28 with fail
              go_quiet (fail)
              go_wp2_with fail
              go_roundw
              case rel => exact ⟨j + 1, by omega, by go_num, Lib.hid (R.out.down (below_drewN (Below.refl _ _) _))⟩
              case measure => simp [intOf]; omega
            · obtain rfl : j = 3 := by omega
              have g1 : decide (((3 : Nat) : Int) < 3) = false := by decide
              go_wp2_with fail
              go_ret
              exact ⟨rfl, R.out.below⟩
  · have L1b := L1
    refine wp_region_lit ?_
    refine wpList_val (v := ?_) rfl ?_ ?_
    rotate_left
    · (go_simp; (try (first | with_reducible rfl | (constructor <;> with_reducible rfl))))
    (try simp only [Act.put, nA, nB, nC])
    refine wpList_val (v := ?_) rfl ?_ ?_
    rotate_left
    · refine Eq.trans (run_load_row 32 (.tmp 5) (by rfl) (w.heap.size) (by rfl) _ _ _ _ (P0) Try.underlying32 rfl (ist.trans (by rw [arrv_size]))) ?_; with_reducible rfl
    (try simp only [Act.put, nA, nB, nC])
    refine wpList_val (v := ?_) rfl ?_ ?_
    rotate_left
    · (go_simp; (try (first | with_reducible rfl | (constructor <;> with_reducible rfl))))
    (try simp only [Act.put, nA, nB, nC])
    refine wpList_step (fun K hK => ?_)
    go_simp
    (refine (fill_nil z 1073741824 S q n cp _ hg).mono ?_); rintro e w2 ⟨rfl, hb⟩; have L2 := Lib.hid (L1.out.down hb); clear hb L1 L1b P0
    (try dsimp only)
    (try simp only [Act.put, nA, nB, nC])
    refine hK _ _ ?_
    clear hK K
    refine wpList_val (v := ?_) rfl ?_ ?_
    rotate_left
    · (go_simp; (try (first | with_reducible rfl | (constructor <;> with_reducible rfl))))
    (try simp only [Act.put, nA, nB, nC])
    refine wpList_nil ?_
    clear hg
    go_wp2_with fail
    go_ret
    exact ⟨rfl, L2.out.below⟩
end Go.Proofs.Ytpoiobgpggiebaa
