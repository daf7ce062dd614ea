/- The walk of the law JacStill. -/
import Derived.Test.YtanmddenleffaaaKnown17W
import Derived.Deep.QuietTactic
import Derived.BigQuiet
namespace Go.Proofs.Ytanmddenleffaaa
open Go.RowKit
set_option maxRecDepth 100000
theorem st17_start (S N : Nat → Int) (w : World) : Below w.heap.size w ((w.alloc (.cells (arrv 24 S) 30)).alloc (.cells (arrv 24 N) 26)) ∧
    Blk ((w.alloc (.cells (arrv 24 S) 30)).alloc (.cells (arrv 24 N) 26)) w.heap.size 30 24 S ∧ Blk ((w.alloc (.cells (arrv 24 S) 30)).alloc (.cells (arrv 24 N) 26)) (w.heap.size + 1) 26 24 N :=
  ⟨by (repeat (first | with_reducible exact Below.refl _ _ | with_reducible apply Below.drew | (with_reducible refine below_drewN ?_ _) | (with_reducible refine Below.alloc ?_ (by (try simp) <;> omega) _) | (with_reducible refine Below.setCell ?_ (by (try simp) <;> omega) _))), (Blk.new w _ _ _).alloc _, Blk.new1 w _ _ _ _⟩
set_option maxHeartbeats 4000000 in
theorem still17_noop (S N : Nat → Int) (us more : Int) (w : World) (h : us < 0 ∨ 100000 < us ∨ more < 0 ∨ 100000 < more) :
    Calls Try.prog 4 #[.agg (arrv 24 S), .agg (arrv 24 N), .int .i64 us, .int .i64 more] w fun e w' => e = .returned (.bool true) ∧ Below w.heap.size w w' := by
  have S0 := Lib.hid (st17_start S N w).1
  go_enter Try.func4, Try.ntmps4
  go_upto_region 1 with fail
  generalize (w.alloc (.cells (arrv 24 S) 30)).alloc (.cells (arrv 24 N) 26) = W0 at *
  go_upto_region 3 with (go_at_call 8; (refine (awake17_any _).mono ?_); rintro e w1 ⟨rfl, hb1⟩; have S1 := Lib.hid (Below.after S0.out hb1); clear hb1)
  go_wp2_with fail
  all_goals (first | (exfalso; omega) | (go_ret; exact ⟨rfl, S1.out⟩))
set_option maxHeartbeats 16000000 in
theorem still17_yes (S N : Nat → Int) (us more : Int) (w : World) (h0 : 0 ≤ us) (h1 : us ≤ 100000) (h2 : 0 ≤ more) (h3 : more ≤ 100000) :
    Calls Try.prog 4 #[.agg (arrv 24 S), .agg (arrv 24 N), .int .i64 us, .int .i64 more] w fun e w' => e = .returned (.bool true) ∧ Below w.heap.size w w' := by
  have S0 := Lib.hid (st17_start S N w)
  have NL := Lib.hid (fun k => noise_law N h0 h1 h2 h3 k)
  have d1 : decide (us < 0) = false := by simp; omega
  have d2 : decide (100000 < us) = false := by simp; omega
  have d3 : decide (more < 0) = false := by simp; omega
  have d4 : decide (100000 < more) = false := by simp; omega
  have w1' : IntKind.i64.wrap (us + more) = us + more := IntWalk.i64_in _ (by omega)
  have OC0 := fun (c : Addr) (x : World) (k : x.cell? c = some (.bool false)) (f : x.frozen? c = false) => jof_any c false S (fun _ => 0) x k f
  obtain ⟨g1, hg1⟩ : ∃ x, (false || jofH S (fun _ => 0)) = x := ⟨_, rfl⟩
  rw [hg1, arrv_congr (jof_still S)] at OC0
  have OC := Lib.hid OC0
  have NA0 := fun (c : Addr) (x : World) (k : x.cell? c = some (.bool g1)) (f : x.frozen? c = false) => noise_any c g1 N us x k f
  obtain ⟨g2, hg2⟩ : ∃ x, (g1 || noH N us) = x := ⟨_, rfl⟩
  obtain ⟨A, hA⟩ : ∃ x, noF N us = x := ⟨_, rfl⟩
  rw [hg2, hA] at NA0
  have NA := Lib.hid NA0
  have NB0 := fun (c : Addr) (x : World) (k : x.cell? c = some (.bool g2)) (f : x.frozen? c = false) => noise_any c g2 N (us + more) x k f
  obtain ⟨g3, hg3⟩ : ∃ x, (g2 || noH N (us + more)) = x := ⟨_, rfl⟩
  obtain ⟨B, hB⟩ : ∃ x, noF N (us + more) = x := ⟨_, rfl⟩
  rw [hg3, hB] at NB0
  rw [hA, hB] at NL
  have NB := Lib.hid NB0
  clear OC0 NA0 NB0 hg1 hg2 hg3 hA hB h0 h1 h2 h3
  go_enter Try.func4, Try.ntmps4
  go_upto_region 1 with fail
  generalize (w.alloc (.cells (arrv 24 S) 30)).alloc (.cells (arrv 24 N) 26) = W0 at *
  go_upto_region 5 with (go_at_call 8; (refine (awake17_any _).mono ?_); rintro e w1 ⟨rfl, hb1⟩; have S1 := Lib.hid (And.intro (Below.after S0.out.1 hb1) (And.intro (S0.out.2.1.below hb1) (S0.out.2.2.below hb1))); clear hb1)
  clear S0 d1 d2 d3 d4
  go_upto_region 6 with fail
  obtain ⟨bc, hbc⟩ : ∃ x, w1.heap.size = x := ⟨_, rfl⟩
  have K4 := Lib.hid (Flg.new w1 false)
  have b4 : Below w1.heap.size w1 (w1.alloc (.cells #[.bool false] 25)) := (Below.refl _ _).alloc (Nat.le_refl _) _
  have hl4 : w.heap.size + 1 < bc := by rw [← hbc]; exact S1.out.2.2.lt
  have R4 := Lib.hid (And.intro (Below.after S1.out.1 b4) (And.intro (S1.out.2.1.below b4) (And.intro (S1.out.2.2.below b4) hl4)))
  rw [hbc] at K4 ⊢
  generalize w1.alloc (.cells #[.bool false] 25) = W4 at *
  clear S1 hbc b4 hl4
  have M4 := Lib.hid (ls_nil K4.out.cell K4.out.free)
  clear K4
  have P4 := R4.out.2.1
  refine wp_region_lit ?_
  refine wpList_val (v := ?_) rfl ?_ ?_
  rotate_left
  · (go_simp; (try (first | with_reducible rfl | (constructor <;> with_reducible rfl))))
  (try simp only [Act.put, nA, nB, nC])
  refine wpList_val (v := ?_) rfl ?_ ?_
  rotate_left
  · refine Eq.trans (run_load_row 30 (.tmp 4) (by rfl) (w.heap.size) (by rfl) _ _ _ _ (P4) Try.underlying30 rfl (ist.trans (by rw [arrv_size]))) ?_; with_reducible rfl
  (try simp only [Act.put, nA, nB, nC])
  refine wpList_val (v := ?_) rfl ?_ ?_
  rotate_left
  · (refine Eq.trans (jk_bimu (by rfl)) ?_; with_reducible rfl)
  (try simp only [Act.put, nA, nB, nC])
  refine wpList_step (fun K hK => ?_)
  go_simp
  (refine (OC.out _ _ M4.out.cell M4.out.free).mono ?_); rintro e w2 ⟨rfl, hu⟩; have M5 := Lib.hid (M4.out.upd' hu); clear hu M4 P4 OC
  (try dsimp only)
  (try simp only [Act.put, nA, nB, nC])
  refine hK _ _ ?_
  clear hK K
  refine wpList_act (v := ?_) (w' := ?_) rfl ?_ ?_
  rotate_left 2
  · (go_simp; (try (first | with_reducible rfl | (constructor <;> with_reducible rfl))))
  (try simp only [Act.put, nA, nB, nC])
  refine wpList_done (w' := ?_) rfl ?_ ?_
  rotate_left
  · (refine Eq.trans (run_store_row 28 (.tmp 10) (.tmp 38) (by rfl) (w2.heap.size) (by rfl) (by rfl) (show Blk (w2.alloc (.cells Try.zeroCells28 28)) w2.heap.size 28 576 (fun _ => 0) by rw [zmat]; exact Blk.new _ _ _ _) (imat.trans rfl)) ?_; with_reducible rfl)
  (try simp only [Act.put, nA, nB, nC])
  refine wpList_nil ?_
  have M6 := M5.out.put 28 576 (fun _ => 0) oneF
  rw [← zmat] at M6
  have M6 := Lib.hid M6
  obtain ⟨fb, hfb⟩ : ∃ x, w2.heap.size = x := ⟨_, rfl⟩
  rw [hfb] at M6 ⊢
  generalize (w2.alloc (.cells Try.zeroCells28 28)).setRow fb (arrv 576 oneF) = W6 at *
  clear M5 hfb
  go_upto_region 7 with fail
  refine wp_region_lit ?_
  refine wpList_step (fun K hK => ?_)
  go_simp
  (refine (one_any _).mono ?_); rintro e w3 ⟨rfl, hb⟩; have M7 := Lib.hid (M6.out.down hb); clear hb M6
  (try dsimp only)
  (try simp only [Act.put, nA, nB, nC])
  refine hK _ _ ?_
  clear hK K
  refine wpList_act (v := ?_) (w' := ?_) rfl ?_ ?_
  rotate_left 2
  · (go_simp; (try (first | with_reducible rfl | (constructor <;> with_reducible rfl))))
  (try simp only [Act.put, nA, nB, nC])
  refine wpList_done (w' := ?_) rfl ?_ ?_
  rotate_left
  · (refine Eq.trans (run_store_row 28 (.tmp 11) (.tmp 39) (by rfl) (w3.heap.size) (by rfl) (by rfl) (show Blk (w3.alloc (.cells Try.zeroCells28 28)) w3.heap.size 28 576 (fun _ => 0) by rw [zmat]; exact Blk.new _ _ _ _) (imat.trans rfl)) ?_; with_reducible rfl)
  (try simp only [Act.put, nA, nB, nC])
  refine wpList_nil ?_
  have M8 := M7.out.put 28 576 (fun _ => 0) oneF
  rw [← zmat] at M8
  have M8 := Lib.hid M8
  obtain ⟨ob, hob⟩ : ∃ x, w3.heap.size = x := ⟨_, rfl⟩
  rw [hob] at M8 ⊢
  generalize (w3.alloc (.cells Try.zeroCells28 28)).setRow ob (arrv 576 oneF) = W8 at *
  clear M7 hob
  go_wp2_with fail
  go_loopw [12] (fun v wr => ∃ r : Nat, r ≤ 24 ∧ v = .int .i64 r ∧ Hid (LsR ⟨bc, 0, none⟩ g1 [⟨ob, 28, 576, oneF⟩, ⟨fb, 28, 576, oneF⟩] (ob + 1) W4 wr)) (fun v _ => 24 - (intOf v).toNat)
  case atStart => exact ⟨0, by omega, rfl, M8⟩
  case round =>
    obtain ⟨r, hr, rfl, R⟩ := hrel
    clear M8
    by_cases hlt : r < 24
    · have d1 : decide ((r : Int) < 24) = true := by simp; omega
      have r0 : (0 : Int) ≤ (r : Int) := Int.natCast_nonneg _
      have r1 : (r : Int) < 24 := by omega
      go_wp2_with fail
      go_loopw [13] (fun v wr => ∃ k : Nat, k ≤ 24 ∧ v = .int .i64 k ∧ Hid (LsR ⟨bc, 0, none⟩ g1 [⟨ob, 28, 576, oneF⟩, ⟨fb, 28, 576, oneF⟩] (ob + 1) W4 wr)) (fun v _ => 24 - (intOf v).toNat)
      case atStart => exact ⟨0, by omega, rfl, R⟩
      case round =>
        obtain ⟨k, hk, rfl, Q⟩ := hrel
        clear R
        by_cases hkt : k < 24
        · have d2 : decide ((k : Int) < 24) = true := by simp; omega
          have k0 : (0 : Int) ≤ (k : Int) := Int.natCast_nonneg _
          have k1 : (k : Int) < 24 := by omega
          have c0 := Q.out.e0.cell (i := r * 24 + k) (by omega)
          have c1 := Q.out.e1.cell (i := r * 24 + k) (by omega)
          obtain ⟨x, hx⟩ : ∃ x, oneF (r * 24 + k) = x := ⟨_, rfl⟩
          rw [hx] at c0 c1
          have q1 : (x != x) = false := by simp
          clear hx
          have HQ := Lib.hid Q.out.drew
          clear Q
          go_upto_region 14 with fail
          refine wp_region_M (fun w' => w'.cell? ⟨ob, r * 24 + k, none⟩ = some (.int .i64 x) ∧ w'.cell? ⟨fb, r * 24 + k, none⟩ = some (.int .i64 x)) 10 (by kernel_rfl) ?_ (fun hHeld => ?_)
          · exact ⟨c0, c1⟩
          refine wpAnyM_takeW 0 (v := ?_) rfl (by kernel_rfl) (fun _ _ _ h => h) (Or.inl ⟨by rfl, ?_⟩) (.inr (by assumption)) ?_
          rotate_left
          · (intro wx hSw; (try dsimp only at hSw); go_simp; (try with_reducible rfl))
          (try simp only [Act.put, nA, nB, nC])
          refine wpAnyM_takeW 1 (v := ?_) rfl (by kernel_rfl) (fun _ _ _ h => h) (Or.inl ⟨by rfl, ?_⟩) (.inr (by assumption)) ?_
          rotate_left
          · (intro wx hSw; (try dsimp only at hSw); go_simp; (try with_reducible rfl))
          (try simp only [Act.put, nA, nB, nC])
          refine wpAnyM_takeW 2 (v := ?_) rfl (by kernel_rfl) (fun _ _ _ h => h) (Or.inl ⟨by rfl, ?_⟩) (.inr (by assumption)) ?_
          rotate_left
          · (intro wx hSw; (try dsimp only at hSw); go_simp; (try with_reducible rfl))
          (try simp only [Act.put, nA, nB, nC])
          refine wpAnyM_takeW 3 (v := ?_) rfl (by kernel_rfl) (fun _ _ _ h => h) (Or.inl ⟨by rfl, ?_⟩) (.inr (by assumption)) ?_
          rotate_left
          · (intro wx hSw; (try dsimp only at hSw); go_simp; (try with_reducible rfl))
          (try simp only [Act.put, nA, nB, nC])
          refine wpAnyM_take 4 (v := ?_) rfl (by kernel_rfl) (fun _ _ _ h => h) (Or.inl ⟨by rfl, ?_⟩) (by assumption) ?_
          rotate_left
          · (intro wx hSw; (try dsimp only at hSw); go_simp; (try with_reducible rfl))
          (try simp only [Act.put, nA, nB, nC])
          refine wpAnyM_takeW 5 (v := ?_) rfl (by kernel_rfl) (fun _ _ _ h => h) (Or.inl ⟨by rfl, ?_⟩) (.inr (by assumption)) ?_
          rotate_left
          · (intro wx hSw; (try dsimp only at hSw); go_simp; (try with_reducible rfl))
          (try simp only [Act.put, nA, nB, nC])
          refine wpAnyM_takeW 6 (v := ?_) rfl (by kernel_rfl) (fun _ _ _ h => h) (Or.inl ⟨by rfl, ?_⟩) (.inr (by assumption)) ?_
          rotate_left
          · (intro wx hSw; (try dsimp only at hSw); go_simp; (try with_reducible rfl))
          (try simp only [Act.put, nA, nB, nC])
          refine wpAnyM_takeW 7 (v := ?_) rfl (by kernel_rfl) (fun _ _ _ h => h) (Or.inl ⟨by rfl, ?_⟩) (.inr (by assumption)) ?_
          rotate_left
          · (intro wx hSw; (try dsimp only at hSw); go_simp; (try with_reducible rfl))
          (try simp only [Act.put, nA, nB, nC])
          refine wpAnyM_takeW 8 (v := ?_) rfl (by kernel_rfl) (fun _ _ _ h => h) (Or.inl ⟨by rfl, ?_⟩) (.inr (by assumption)) ?_
          rotate_left
          · (intro wx hSw; (try dsimp only at hSw); go_simp; (try with_reducible rfl))
          (try simp only [Act.put, nA, nB, nC])
          refine wpAnyM_take 9 (v := ?_) rfl (by kernel_rfl) (fun _ _ _ h => h) (Or.inl ⟨by rfl, ?_⟩) (by assumption) ?_
          rotate_left
          · (intro wx hSw; (try dsimp only at hSw); go_simp; (try with_reducible rfl))
          (try simp only [Act.put, nA, nB, nC])
          refine wpAnyM_one 10 rfl (by kernel_rfl) (fun K hK => ?_)
          go_simp
          refine hK.out _ _ (.inl (by kernel_rfl)) (fun _ => ?_)
          clear hK K
          (try simp only [Act.put, nA, nB, nC])
          refine wpAnyM_done (by kernel_rfl) ?_ _
          go_wp2_with fail
          go_roundw
          case rel => exact ⟨k + 1, by omega, by go_num, HQ⟩
          case measure => simp [intOf]; omega
        · have hk24 : k = 24 := by omega
          subst hk24
          rw [show ((24 : Nat) : Int) = 24 from rfl]
          go_wp2_with fail
          go_roundw
          case rel => exact ⟨r + 1, by omega, by go_num, Q⟩
          case measure => simp [intOf]; omega
    · have hr24 : r = 24 := by omega
      subst hr24
      rw [show ((24 : Nat) : Int) = 24 from rfl]
      have c1 := R4.out.2.2.1.upd R.out.upd (by have := R4.out.2.2.2; simp only; omega)
      go_upto_region 16 with fail
      refine wp_region_lit ?_
      refine wpList_val (v := ?_) rfl ?_ ?_
      rotate_left
      · (go_simp; (try (first | with_reducible rfl | (constructor <;> with_reducible rfl))))
      (try simp only [Act.put, nA, nB, nC])
      refine wpList_val (v := ?_) rfl ?_ ?_
      rotate_left
      · (refine Eq.trans (run_load_row 26 (.tmp 5) (by rfl) (w.heap.size + 1) (by rfl) _ _ _ _ c1 Try.underlying26 rfl (icol.trans (by rw [arrv_size]))) ?_; with_reducible rfl)
      (try simp only [Act.put, nA, nB, nC])
      refine wpList_val (v := ?_) rfl ?_ ?_
      rotate_left
      · (go_simp; (try (first | with_reducible rfl | (constructor <;> with_reducible rfl))))
      (try simp only [Act.put, nA, nB, nC])
      refine wpList_step (fun K hK => ?_)
      go_simp
      (refine (NA.out _ _ R.out.cell R.out.free).mono ?_); rintro e w5 ⟨rfl, hu⟩; have N1 := Lib.hid ((R.out.sub (E' := []) (fun e he => by cases he)).upd' hu); clear hu R NA c1
      (try dsimp only)
      (try simp only [Act.put, nA, nB, nC])
      refine hK _ _ ?_
      clear hK K
      refine wpList_act (v := ?_) (w' := ?_) rfl ?_ ?_
      rotate_left 2
      · (go_simp; (try (first | with_reducible rfl | (constructor <;> with_reducible rfl))))
      (try simp only [Act.put, nA, nB, nC])
      refine wpList_done (w' := ?_) rfl ?_ ?_
      rotate_left
      · (refine Eq.trans (run_store_row 26 (.tmp 14) (.tmp 62) (by rfl) (w5.heap.size) (by rfl) (by rfl) (show Blk (w5.alloc (.cells #[.int .i64 0, .int .i64 0, .int .i64 0, .int .i64 0, .int .i64 0, .int .i64 0, .int .i64 0, .int .i64 0, .int .i64 0, .int .i64 0, .int .i64 0, .int .i64 0, .int .i64 0, .int .i64 0, .int .i64 0, .int .i64 0, .int .i64 0, .int .i64 0, .int .i64 0, .int .i64 0, .int .i64 0, .int .i64 0, .int .i64 0, .int .i64 0] 26)) w5.heap.size 26 24 (fun _ => 0) by rw [zcol]; exact Blk.new _ _ _ _) (icol.trans rfl)) ?_; with_reducible rfl)
      (try simp only [Act.put, nA, nB, nC])
      refine wpList_nil ?_
      have N2 := N1.out.put 26 24 (fun _ => 0) A
      rw [← zcol] at N2
      have N2 := Lib.hid N2
      obtain ⟨ab, hab⟩ : ∃ x, w5.heap.size = x := ⟨_, rfl⟩
      rw [hab] at N2 ⊢
      generalize (w5.alloc (.cells #[.int .i64 0, .int .i64 0, .int .i64 0, .int .i64 0, .int .i64 0, .int .i64 0, .int .i64 0, .int .i64 0, .int .i64 0, .int .i64 0, .int .i64 0, .int .i64 0, .int .i64 0, .int .i64 0, .int .i64 0, .int .i64 0, .int .i64 0, .int .i64 0, .int .i64 0, .int .i64 0, .int .i64 0, .int .i64 0, .int .i64 0, .int .i64 0] 26)).setRow ab (arrv 24 A) = V2 at *
      clear N1 hab
      have c1 := R4.out.2.2.1.upd N2.out.upd (by have := R4.out.2.2.2; simp only; omega)
      go_upto_region 17 with fail
      refine wp_region_lit ?_
      refine wpList_val (v := ?_) rfl ?_ ?_
      rotate_left
      · (go_simp; (try (first | with_reducible rfl | (constructor <;> with_reducible rfl))))
      (try simp only [Act.put, nA, nB, nC])
      refine wpList_val (v := ?_) rfl ?_ ?_
      rotate_left
      · (refine Eq.trans (run_load_row 26 (.tmp 5) (by rfl) (w.heap.size + 1) (by rfl) _ _ _ _ c1 Try.underlying26 rfl (icol.trans (by rw [arrv_size]))) ?_; with_reducible rfl)
      (try simp only [Act.put, nA, nB, nC])
      refine wpList_val (v := ?_) rfl ?_ ?_
      rotate_left
      · (go_simp; (try (first | with_reducible rfl | (constructor <;> with_reducible rfl))))
      (try simp only [Act.put, nA, nB, nC])
      refine wpList_val (v := ?_) rfl ?_ ?_
      rotate_left
      · (go_simp; (try (first | with_reducible rfl | (constructor <;> with_reducible rfl))))
      (try simp only [Act.put, nA, nB, nC])
      refine wpList_val (v := ?_) rfl ?_ ?_
      rotate_left
      · (go_simp; (try rw [w1']); (try with_reducible rfl))
      (try simp only [Act.put, nA, nB, nC])
      refine wpList_step (fun K hK => ?_)
      go_simp
      (refine (NB.out _ _ N2.out.cell N2.out.free).mono ?_); rintro e w6 ⟨rfl, hu⟩; have N3 := Lib.hid (N2.out.upd' hu); clear hu N2 NB c1
      (try dsimp only)
      (try simp only [Act.put, nA, nB, nC])
      refine hK _ _ ?_
      clear hK K
      refine wpList_act (v := ?_) (w' := ?_) rfl ?_ ?_
      rotate_left 2
      · (go_simp; (try (first | with_reducible rfl | (constructor <;> with_reducible rfl))))
      (try simp only [Act.put, nA, nB, nC])
      refine wpList_done (w' := ?_) rfl ?_ ?_
      rotate_left
      · (refine Eq.trans (run_store_row 26 (.tmp 15) (.tmp 68) (by rfl) (w6.heap.size) (by rfl) (by rfl) (show Blk (w6.alloc (.cells #[.int .i64 0, .int .i64 0, .int .i64 0, .int .i64 0, .int .i64 0, .int .i64 0, .int .i64 0, .int .i64 0, .int .i64 0, .int .i64 0, .int .i64 0, .int .i64 0, .int .i64 0, .int .i64 0, .int .i64 0, .int .i64 0, .int .i64 0, .int .i64 0, .int .i64 0, .int .i64 0, .int .i64 0, .int .i64 0, .int .i64 0, .int .i64 0] 26)) w6.heap.size 26 24 (fun _ => 0) by rw [zcol]; exact Blk.new _ _ _ _) (icol.trans rfl)) ?_; with_reducible rfl)
      (try simp only [Act.put, nA, nB, nC])
      refine wpList_nil ?_
      have N4 := N3.out.put 26 24 (fun _ => 0) B
      rw [← zcol] at N4
      have N4 := Lib.hid N4
      obtain ⟨bb, hbb⟩ : ∃ x, w6.heap.size = x := ⟨_, rfl⟩
      rw [hbb] at N4 ⊢
      generalize (w6.alloc (.cells #[.int .i64 0, .int .i64 0, .int .i64 0, .int .i64 0, .int .i64 0, .int .i64 0, .int .i64 0, .int .i64 0, .int .i64 0, .int .i64 0, .int .i64 0, .int .i64 0, .int .i64 0, .int .i64 0, .int .i64 0, .int .i64 0, .int .i64 0, .int .i64 0, .int .i64 0, .int .i64 0, .int .i64 0, .int .i64 0, .int .i64 0, .int .i64 0] 26)).setRow bb (arrv 24 B) = V4 at *
      clear N3 hbb w1'
      have T := Lib.hid (show Below w.heap.size w V4 ∧ Blk V4 (w.heap.size + 1) 26 24 N ∧ Blk V4 ab 26 24 A ∧ Blk V4 bb 26 24 B from
        ⟨own_upd R4.out.1 (by have := R4.out.2.2.2; simp only; omega) N4.out.upd, R4.out.2.2.1.upd N4.out.upd (by have := R4.out.2.2.2; simp only; omega), N4.out.e1, N4.out.e0⟩)
      clear N4 R4
      go_wp2_with fail
      go_loopw [16] (fun v wr => ∃ k : Nat, k ≤ 24 ∧ v = .int .i64 k ∧ Hid (Below w.heap.size w wr ∧ Blk wr (w.heap.size + 1) 26 24 N ∧ Blk wr ab 26 24 A ∧ Blk wr bb 26 24 B)) (fun v _ => 24 - (intOf v).toNat)
      case atStart => exact ⟨0, by omega, rfl, T.out⟩
      case round =>
        obtain ⟨k, hk, rfl, Q⟩ := hrel
        clear T
        by_cases hkt : k < 24
        · have d2 : decide ((k : Int) < 24) = true := by simp; omega
          have k0 : (0 : Int) ≤ (k : Int) := Int.natCast_nonneg _
          have k1 : (k : Int) < 24 := by omega
          have c0 := Q.out.2.1.cell (i := k) hkt
          have c1 := Q.out.2.2.1.cell (i := k) hkt
          have c2 := Q.out.2.2.2.cell (i := k) hkt
          have nl := NL.out k
          obtain ⟨x, hx⟩ : ∃ x, N k = x := ⟨_, rfl⟩
          obtain ⟨a, ha⟩ : ∃ x, A k = x := ⟨_, rfl⟩
          obtain ⟨b, hb⟩ : ∃ x, B k = x := ⟨_, rfl⟩
          rw [hx] at c0 nl
          rw [ha] at c1 nl
          rw [hb] at c2 nl
          clear hx ha hb
          have HQ := Lib.hid Q.out
          clear Q
          by_cases hx0 : 0 ≤ x
          · have f1 : decide (0 ≤ x) = true := by simpa using hx0
            have f2 : decide (b < a) = false := by have := nl.1 hx0; simp; omega
            have f3 : decide (a < 0) = false := by have := nl.1 hx0; simp; omega
            have f4 : decide (x < 0) = false := by simp; omega
            clear nl hx0
            go_upto_region 21 with fail
            go_quiet (fail)
            go_wp2_with fail
            go_roundw
            case rel => exact ⟨k + 1, by omega, by go_num, below_drewN HQ.out.1 _, HQ.out.2⟩
            case measure => simp [intOf]; omega
          · have f1 : decide (0 ≤ x) = false := by simpa using hx0
            have f4 : decide (x < 0) = true := by simp; omega
            have a0 := nl.2 (by omega)
            subst a0
            clear nl hx0
            go_upto_region 21 with fail
            go_quiet (fail)
            go_wp2_with fail
            go_roundw
            case rel => exact ⟨k + 1, by omega, by go_num, below_drewN HQ.out.1 _, HQ.out.2⟩
            case measure => simp [intOf]; omega
        · have hk24 : k = 24 := by omega
          subst hk24
          rw [show ((24 : Nat) : Int) = 24 from rfl]
          go_wp2_with fail
          go_ret
          exact ⟨rfl, Q.out.1⟩
theorem still17_walk (S N : Nat → Int) (us more : Int) (w : World) :
    Calls Try.prog 4 #[.agg (arrv 24 S), .agg (arrv 24 N), .int .i64 us, .int .i64 more] w fun e w' => e = .returned (.bool true) ∧ Below w.heap.size w w' := by
  by_cases h : us < 0 ∨ 100000 < us ∨ more < 0 ∨ 100000 < more
  · exact still17_noop S N us more w h
  · exact still17_yes S N us more w (by omega) (by omega) (by omega) (by omega)
end Go.Proofs.Ytanmddenleffaaa
