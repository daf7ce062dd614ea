/- The walk of the law JacRows. -/
import Derived.Test.YtanmddenleffaaaQ19
import Derived.Test.YtanmddenleffaaaQ20
namespace Go.Proofs.Ytanmddenleffaaa
open Go.RowKit
set_option maxRecDepth 100000
theorem rw17_start (S I : Nat → Int) (w : World) : Below w.heap.size w ((w.alloc (.cells (arrv 24 S) 30)).alloc (.cells (arrv 8 I) 33)) ∧
    Blk ((w.alloc (.cells (arrv 24 S) 30)).alloc (.cells (arrv 8 I) 33)) w.heap.size 30 24 S ∧ Blk ((w.alloc (.cells (arrv 24 S) 30)).alloc (.cells (arrv 8 I) 33)) (w.heap.size + 1) 33 8 I :=
  ⟨by (repeat (first | with_reducible exact Below.refl _ _ | with_reducible apply Below.drew | (with_reducible refine below_drewN ?_ _) | (with_reducible refine Below.alloc ?_ (by (try simp) <;> omega) _) | (with_reducible refine Below.setCell ?_ (by (try simp) <;> omega) _))), (Blk.new w _ _ _).alloc _, Blk.new1 w _ _ _ _⟩
/-- A row's number, and what the law asks of it. -/
theorem rows_case {r k : Nat} {x t : Int} (hr : 7 ≤ r) (hx : x = if r < 10 ∧ k = r - 3 then t else if r = k then 1073741824 else 0) :
    (((r : Int) == (k : Int)) = true ∧ decide ((r : Int) < 10) = true ∧ ((k : Int) == ((r - 3 : Nat) : Int)) = false ∧ x = 1073741824) ∨ (((r : Int) == (k : Int)) = true ∧ decide ((r : Int) < 10) = false ∧ x = 1073741824) ∨
    (((r : Int) == (k : Int)) = false ∧ decide ((r : Int) < 10) = true ∧ ((k : Int) == ((r - 3 : Nat) : Int)) = true ∧ x = t) ∨ (((r : Int) == (k : Int)) = false ∧ decide ((r : Int) < 10) = true ∧ ((k : Int) == ((r - 3 : Nat) : Int)) = false ∧ x = 0) ∨
    (((r : Int) == (k : Int)) = false ∧ decide ((r : Int) < 10) = false ∧ x = 0) := by
  by_cases h1 : r = k
  · rw [if_neg (by omega), if_pos h1] at hx
    by_cases h2 : r < 10
    · exact .inl ⟨by simp; omega, by simp; omega, by simp; omega, hx⟩
    · exact .inr (.inl ⟨by simp; omega, by simp; omega, hx⟩)
  · by_cases h2 : r < 10
    · by_cases h3 : k = r - 3
      · rw [if_pos ⟨h2, h3⟩] at hx
        exact .inr (.inr (.inl ⟨by simp; omega, by simp; omega, by simp; omega, hx⟩))
      · rw [if_neg (by omega), if_neg h1] at hx
        exact .inr (.inr (.inr (.inl ⟨by simp; omega, by simp; omega, by simp; omega, hx⟩)))
    · rw [if_neg (by omega), if_neg h1] at hx
      exact .inr (.inr (.inr (.inr ⟨by simp; omega, by simp; omega, hx⟩)))
set_option maxHeartbeats 16000000 in
theorem rows17_walk (S I : Nat → Int) (w : World) : Calls Try.prog 5 #[.agg (arrv 24 S), .agg (arrv 8 I)] w fun e w' => e = .returned (.bool true) ∧ Below w.heap.size w w' := by
  have S0 := Lib.hid (rw17_start S I w)
  have RW := Lib.hid (fun (r k : Nat) (hr : 7 ≤ r) (hr2 : r < 24) (hk : k < 24) => rows_case (k := k) hr (jof_rows S I hr hr2 hk))
  obtain ⟨us, hus⟩ : ∃ x, I 1 = x := ⟨_, rfl⟩
  have HUS := Lib.hid hus
  rw [hus] at RW
  obtain ⟨t, ht⟩ : ∃ x, secV us = x := ⟨_, rfl⟩
  obtain ⟨F, hF⟩ : ∃ x, jofF S I = x := ⟨_, rfl⟩
  rw [ht, hF] at RW
  have OC0 := fun (c : Addr) (x : World) (k : x.cell? c = some (.bool false)) (f : x.frozen? c = false) => jof_any c false S I x k f
  obtain ⟨h1, hh1⟩ : ∃ x, (false || jofH S I) = x := ⟨_, rfl⟩
  rw [hF, hh1] at OC0
  have OC := Lib.hid OC0
  have TC0 := fun (c : Addr) (x : World) (k : x.cell? c = some (.bool h1)) (f : x.frozen? c = false) => sec_any c h1 us x k f
  obtain ⟨h2, hh2⟩ : ∃ x, (h1 || secH us) = x := ⟨_, rfl⟩
  rw [ht, hh2] at TC0
  have TC := Lib.hid TC0
  clear OC0 TC0 hus ht hF hh1 hh2
  go_enter Try.func5, Try.ntmps5
  go_upto_region 1 with fail
  generalize (w.alloc (.cells (arrv 24 S) 30)).alloc (.cells (arrv 8 I) 33) = W0 at *
  go_upto_region 3 with (go_at_call 8; (refine (awake17_any _).mono ?_); rintro e w1 ⟨rfl, hb1⟩; have S1 := Lib.hid (And.intro (Below.after S0.out.1 hb1) (And.intro (S0.out.2.1.below hb1) (S0.out.2.2.below hb1))); clear hb1)
  clear S0
  go_upto_region 4 with fail
  obtain ⟨bc, hbc⟩ : ∃ x, w1.heap.size = x := ⟨_, rfl⟩
  have K4 := Lib.hid (Flg.new w1 false)
  have b4 : Below w1.heap.size w1 (w1.alloc (.cells #[.bool false] 25)) := (Below.refl _ _).alloc (Nat.le_refl _) _
  have hl4 : w.heap.size + 1 < bc := by rw [← hbc]; exact S1.out.2.2.lt
  have R4 := Lib.hid (And.intro (Below.after S1.out.1 b4) (And.intro (S1.out.2.1.below b4) (And.intro (S1.out.2.2.below b4) hl4)))
  rw [hbc] at K4 ⊢
  generalize w1.alloc (.cells #[.bool false] 25) = W4 at *
  clear S1 hbc b4 hl4
  have M4 := Lib.hid (ls_nil K4.out.cell K4.out.free)
  clear K4
  have P4 := R4.out.2.1
  have I4 := R4.out.2.2.1
  refine wp_region_lit ?_
  refine wpList_val (v := ?_) rfl ?_ ?_
  rotate_left
  · (go_simp; (try (first | with_reducible rfl | (constructor <;> with_reducible rfl))))
  (try simp only [Act.put, nA, nB, nC])
  refine wpList_val (v := ?_) rfl ?_ ?_
  rotate_left
  · refine Eq.trans (run_load_row 30 (.tmp 2) (by rfl) (w.heap.size) (by rfl) _ _ _ _ (P4) Try.underlying30 rfl (ist.trans (by rw [arrv_size]))) ?_; with_reducible rfl
  (try simp only [Act.put, nA, nB, nC])
  refine wpList_val (v := ?_) rfl ?_ ?_
  rotate_left
  · (refine Eq.trans (run_load_row 33 (.tmp 3) (by rfl) (w.heap.size + 1) (by rfl) _ _ _ _ I4 Try.underlying33 rfl (iimu.trans (by rw [arrv_size]))) ?_; with_reducible rfl)
  (try simp only [Act.put, nA, nB, nC])
  refine wpList_step (fun K hK => ?_)
  go_simp
  (refine (OC.out _ _ M4.out.cell M4.out.free).mono ?_); rintro e w2 ⟨rfl, hu⟩; have M5 := Lib.hid (M4.out.upd' hu); clear hu M4 P4 I4 OC
  (try dsimp only)
  (try simp only [Act.put, nA, nB, nC])
  refine hK _ _ ?_
  clear hK K
  refine wpList_act (v := ?_) (w' := ?_) rfl ?_ ?_
  rotate_left 2
  · (go_simp; (try (first | with_reducible rfl | (constructor <;> with_reducible rfl))))
  (try simp only [Act.put, nA, nB, nC])
  refine wpList_done (w' := ?_) rfl ?_ ?_
  rotate_left
  · (refine Eq.trans (run_store_row 28 (.tmp 6) (.tmp 18) (by rfl) (w2.heap.size) (by rfl) (by rfl) (show Blk (w2.alloc (.cells Try.zeroCells28 28)) w2.heap.size 28 576 (fun _ => 0) by rw [zmat]; exact Blk.new _ _ _ _) (imat.trans rfl)) ?_; with_reducible rfl)
  (try simp only [Act.put, nA, nB, nC])
  refine wpList_nil ?_
  have M6 := M5.out.put 28 576 (fun _ => 0) F
  rw [← zmat] at M6
  have M6 := Lib.hid M6
  obtain ⟨fb, hfb⟩ : ∃ x, w2.heap.size = x := ⟨_, rfl⟩
  rw [hfb] at M6 ⊢
  generalize (w2.alloc (.cells Try.zeroCells28 28)).setRow fb (arrv 576 F) = W6 at *
  clear M5 hfb
  have c0 := (R4.out.2.2.1.upd M6.out.upd (by have := R4.out.2.2.2; simp only; omega)).cell (i := 1) (by decide)
  rw [HUS.out] at c0
  go_upto_region 5 with fail
  refine wp_region_lit ?_
  refine wpList_val (v := ?_) rfl ?_ ?_
  rotate_left
  · (go_simp; (try (first | with_reducible rfl | (constructor <;> with_reducible rfl))))
  (try simp only [Act.put, nA, nB, nC])
  refine wpList_val (v := ?_) rfl ?_ ?_
  rotate_left
  · (go_simp; (try (first | with_reducible rfl | (constructor <;> with_reducible rfl))))
  (try simp only [Act.put, nA, nB, nC])
  refine wpList_val (v := ?_) rfl ?_ ?_
  rotate_left
  · (go_simp; (try (first | with_reducible rfl | (constructor <;> with_reducible rfl))))
  (try simp only [Act.put, nA, nB, nC])
  refine wpList_step (fun K hK => ?_)
  go_simp
  (refine (TC.out _ _ M6.out.cell M6.out.free).mono ?_); rintro e w3 ⟨rfl, hu⟩; have M7 := Lib.hid (M6.out.upd' hu); clear hu M6 TC c0
  (try dsimp only)
  (try simp only [Act.put, nA, nB, nC])
  refine hK _ _ ?_
  clear hK K
  refine wpList_val (v := ?_) rfl ?_ ?_
  rotate_left
  · (go_simp; (try (first | with_reducible rfl | (constructor <;> with_reducible rfl))))
  (try simp only [Act.put, nA, nB, nC])
  refine wpList_nil ?_
  have HM := Lib.hid (show Below w.heap.size w w3 ∧ Blk w3 fb 28 576 F from ⟨own_upd R4.out.1 (by have := R4.out.2.2.2; simp only; omega) M7.out.upd, M7.out.e0⟩)
  clear M7 R4
  go_wp2_with fail
  go_loopw [8] (fun v wr => ∃ r : Nat, 7 ≤ r ∧ r ≤ 24 ∧ v = .int .i64 r ∧ Hid (Below w.heap.size w wr ∧ Blk wr fb 28 576 F)) (fun v _ => 24 - (intOf v).toNat)
  case atStart => exact ⟨7, by omega, by omega, rfl, HM.out⟩
  case round =>
    obtain ⟨r, hr7, hr, rfl, R⟩ := hrel
    clear HM
    by_cases hlt : r < 24
    · have d1 : decide ((r : Int) < 24) = true := by simp; omega
      have r0 : (0 : Int) ≤ (r : Int) := Int.natCast_nonneg _
      have r1 : (r : Int) < 24 := by omega
      have w3' : IntKind.i64.wrap ((r : Int) - 3) = ((r - 3 : Nat) : Int) := by rw [show (r : Int) - 3 = ((r - 3 : Nat) : Int) by omega]; exact IntWalk.i64_in _ (by omega)
      have RR := Lib.hid (fun (k : Nat) (hk : k < 24) => RW.out r k hr7 hlt hk)
      obtain ⟨m, hm⟩ : ∃ m, r - 3 = m := ⟨_, rfl⟩
      rw [hm] at w3' RR
      clear hm
      go_wp2_with fail
      go_loopw [9] (fun v wr => ∃ k : Nat, k ≤ 24 ∧ v = .int .i64 k ∧ Hid (Below w.heap.size w wr ∧ Blk wr fb 28 576 F)) (fun v _ => 24 - (intOf v).toNat)
      case atStart => exact ⟨0, by omega, rfl, R⟩
      case round =>
        obtain ⟨k, hk, rfl, Q⟩ := hrel
        clear R
        by_cases hkt : k < 24
        · have d2 : decide ((k : Int) < 24) = true := by simp; omega
          have k0 : (0 : Int) ≤ (k : Int) := Int.natCast_nonneg _
          have k1 : (k : Int) < 24 := by omega
          have c0 := Q.out.2.cell (i := r * 24 + k) (by omega)
          have hc := RR.out k hkt
          obtain ⟨x, hx⟩ : ∃ x, F (r * 24 + k) = x := ⟨_, rfl⟩
          rw [hx] at c0 hc
          clear hx
          rcases hc with ⟨E1, d3, E2, rfl⟩ | ⟨E1, d3, rfl⟩ | ⟨E1, d3, E2, rfl⟩ | ⟨E1, d3, E2, rfl⟩ | ⟨E1, d3, rfl⟩
          all_goals
            have E1 := Lib.hid E1
            (try have E2 := Lib.hid E2)
            go_upto_region 13 with fail
            refine wp_region_lit ?_
            refine wpList_val (v := ?_) rfl ?_ ?_
            rotate_left
            · (go_simp; (try (first | with_reducible rfl | (constructor <;> with_reducible rfl))))
            (try simp only [Act.put, nA, nB, nC])
            refine wpList_val (v := ?_) rfl ?_ ?_
            rotate_left
            · (go_simp; (try (first | with_reducible rfl | (constructor <;> with_reducible rfl))))
            (try simp only [Act.put, nA, nB, nC])
            refine wpList_val (v := ?_) rfl ?_ ?_
            rotate_left
            · (go_simp; (try rw [E1.out]); (try with_reducible rfl))
            (try simp only [Act.put, nA, nB, nC])
            refine wpList_nil ?_
            go_upto_region 15 with fail
            refine wp_region_lit ?_
            refine wpList_val (v := ?_) rfl ?_ ?_
            rotate_left
            · (go_simp; (try (first | with_reducible rfl | (constructor <;> with_reducible rfl))))
            (try simp only [Act.put, nA, nB, nC])
            refine wpList_val (v := ?_) rfl ?_ ?_
            rotate_left
            · (go_simp; (try simp only [d3]); (try with_reducible rfl))
            (try simp only [Act.put, nA, nB, nC])
            refine wpList_val (v := ?_) rfl ?_ ?_
            rotate_left
            · (go_simp; (try (first | with_reducible rfl | (constructor <;> with_reducible rfl))))
            (try simp only [Act.put, nA, nB, nC])
            first | (refine wpList_val (v := ?_) (by rfl) ?_ ?_; rotate_left; focus ((go_simp; (try (first | with_reducible rfl | (constructor <;> with_reducible rfl)))))) | refine wpList_skip (by rfl) ?_
            (try simp only [Act.put, nA, nB, nC])
            first | (refine wpList_val (v := ?_) (by rfl) ?_ ?_; rotate_left; focus ((go_simp; (try (first | with_reducible rfl | (constructor <;> with_reducible rfl)))))) | refine wpList_skip (by rfl) ?_
            (try simp only [Act.put, nA, nB, nC])
            first | (refine wpList_val (v := ?_) (by rfl) ?_ ?_; rotate_left; focus ((go_simp; (try rw [w3']); (try with_reducible rfl)))) | refine wpList_skip (by rfl) ?_
            (try simp only [Act.put, nA, nB, nC])
            first | (refine wpList_val (v := ?_) (by rfl) ?_ ?_; rotate_left; focus ((go_simp; (try rw [E2.out]); (try with_reducible rfl)))) | refine wpList_skip (by rfl) ?_
            (try simp only [Act.put, nA, nB, nC])
            refine wpList_val (v := ?_) rfl ?_ ?_
            rotate_left
            · (go_simp; (try (first | with_reducible rfl | (constructor <;> with_reducible rfl))))
            (try simp only [Act.put, nA, nB, nC])
            refine wpList_nil ?_
            go_wp2_with fail
            go_roundw
            case rel => exact ⟨k + 1, by omega, by go_num, Q⟩
            case measure => simp [intOf]; omega
        · have hk24 : k = 24 := by omega
          subst hk24
          rw [show ((24 : Nat) : Int) = 24 from rfl]
          go_wp2_with fail
          go_roundw
          case rel => exact ⟨r + 1, by omega, by omega, by go_num, Q⟩
          case measure => simp [intOf]; omega
    · have hr24 : r = 24 := by omega
      subst hr24
      rw [show ((24 : Nat) : Int) = 24 from rfl]
      go_wp2_with fail
      go_ret
      exact ⟨rfl, R.out.1⟩
end Go.Proofs.Ytanmddenleffaaa
