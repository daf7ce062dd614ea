/- The walk of BlockApart. -/
import Derived.Test.YtglpbcionohipaaAwk12
namespace Go.Proofs.Ytglpbcionohipaa
open Go.RowKit
set_option maxRecDepth 100000
set_option maxHeartbeats 4000000 in
theorem apart_noop (f : Nat → Int) (fr : Int) (p : Option Addr) (n cp : Nat) (w : World) (h : condH f = true ∨ (condH f = false ∧ fr < 0) ∨ (condH f = false ∧ 23 < fr) ∨ (condH f = false ∧ 0 ≤ fr ∧ fr ≤ 23 ∧ 24 - fr < n)) :
    Calls Try.prog 5 #[.agg (arrv 300 f), .int .i64 fr, .slice p n cp] w fun e w' => e = .returned (.bool true) ∧ Below w.heap.size w w' := by
  go_enter Try.func5, Try.ntmps5
  obtain ⟨W0, hW0⟩ : ∃ x, w.alloc (.cells (arrv 300 f) 29) = x := ⟨_, rfl⟩
  have P0 : Blk W0 w.heap.size 29 300 f := by rw [← hW0]; exact Blk.new w _ _ _
  have B0 : Below w.heap.size w W0 := by rw [← hW0]; exact (Below.refl _ _).alloc (Nat.le_refl _) _
  go_upto_region 3 with (go_at_call 12; (refine (awake12_any _).mono ?_); rintro e w1 ⟨rfl, hb1⟩; have P1 := Lib.hid (P0.below hb1); have B1 := Lib.hid (Below.after B0 hb1); clear hb1)
  clear P0 B0 hW0
  have hc : (condH f = true) ∨ (condH f = false ∧ decide (fr < 0) = true) ∨ (condH f = false ∧ decide (fr < 0) = false ∧ decide (23 < fr) = true) ∨ (condH f = false ∧ decide (fr < 0) = false ∧ decide (23 < fr) = false ∧ decide (24 - fr < (n : Int)) = true ∧ IntKind.i64.wrap (24 - fr) = 24 - fr) := by
    rcases h with h | ⟨h, h1⟩ | ⟨h, h1⟩ | ⟨h, h1, h2, h3⟩
    · exact .inl h
    · exact .inr (.inl ⟨h, by simpa using h1⟩)
    · exact .inr (.inr (.inl ⟨h, by simp; omega, by simpa using h1⟩))
    · exact .inr (.inr (.inr ⟨h, by simp; omega, by simp; omega, by simpa using h3, IntWalk.i64_in _ (by omega)⟩))
  clear h
  rcases hc with hg | ⟨hg, d1⟩ | ⟨hg, d1, d2⟩ | ⟨hg, d1, d2, d3, w1'⟩
  all_goals
    refine wp_region_lit ?_
    refine wpList_val (v := ?_) rfl ?_ ?_
    rotate_left
    · refine Eq.trans (run_load_row 29 (.tmp 3) (by rfl) (w.heap.size) (by rfl) _ _ _ _ (P1.out) Try.underlying29 rfl (icov.trans (by rw [arrv_size]))) ?_; with_reducible rfl
    (try simp only [Act.put, List.setIfInBounds_toArray, List.set_cons_zero, List.set_cons_succ])
    refine wpList_step (fun K hK => ?_)
    go_simp
    (refine (good_any f _).mono ?_); rintro e w2 ⟨rfl, hb2⟩; (rw [hg]); have B2 := Lib.hid (Below.after B1.out hb2); clear hb2
    (try dsimp only)
    (try simp only [Act.put, List.setIfInBounds_toArray, List.set_cons_zero, List.set_cons_succ])
    refine hK _ _ ?_
    clear hK K
    refine wpList_val (v := ?_) rfl ?_ ?_
    rotate_left
    · (go_simp; (try (first | with_reducible rfl | (constructor <;> with_reducible rfl))))
    (try simp only [Act.put, List.setIfInBounds_toArray, List.set_cons_zero, List.set_cons_succ])
    refine wpList_val (v := ?_) rfl ?_ ?_
    rotate_left
    · (go_simp; (try (first | with_reducible rfl | (constructor <;> with_reducible rfl))))
    (try simp only [Act.put, List.setIfInBounds_toArray, List.set_cons_zero, List.set_cons_succ])
    first | (refine wpList_val (v := ?_) (by rfl) ?_ ?_; rotate_left; focus ((go_simp; (try (first | with_reducible rfl | (constructor <;> with_reducible rfl)))))) | refine wpList_skip (by rfl) ?_
    (try simp only [Act.put, List.setIfInBounds_toArray, List.set_cons_zero, List.set_cons_succ])
    first | (refine wpList_val (v := ?_) (by rfl) ?_ ?_; rotate_left; focus ((go_simp; (try simp only [d1]); (try with_reducible rfl)))) | refine wpList_skip (by rfl) ?_
    (try simp only [Act.put, List.setIfInBounds_toArray, List.set_cons_zero, List.set_cons_succ])
    refine wpList_val (v := ?_) rfl ?_ ?_
    rotate_left
    · (go_simp; (try (first | with_reducible rfl | (constructor <;> with_reducible rfl))))
    (try simp only [Act.put, List.setIfInBounds_toArray, List.set_cons_zero, List.set_cons_succ])
    refine wpList_val (v := ?_) rfl ?_ ?_
    rotate_left
    · (go_simp; (try (first | with_reducible rfl | (constructor <;> with_reducible rfl))))
    (try simp only [Act.put, List.setIfInBounds_toArray, List.set_cons_zero, List.set_cons_succ])
    first | (refine wpList_val (v := ?_) (by rfl) ?_ ?_; rotate_left; focus ((go_simp; (try (first | with_reducible rfl | (constructor <;> with_reducible rfl)))))) | refine wpList_skip (by rfl) ?_
    (try simp only [Act.put, List.setIfInBounds_toArray, List.set_cons_zero, List.set_cons_succ])
    first | (refine wpList_val (v := ?_) (by rfl) ?_ ?_; rotate_left; focus ((go_simp; (try simp only [d2]); (try with_reducible rfl)))) | refine wpList_skip (by rfl) ?_
    (try simp only [Act.put, List.setIfInBounds_toArray, List.set_cons_zero, List.set_cons_succ])
    refine wpList_val (v := ?_) rfl ?_ ?_
    rotate_left
    · (go_simp; (try (first | with_reducible rfl | (constructor <;> with_reducible rfl))))
    (try simp only [Act.put, List.setIfInBounds_toArray, List.set_cons_zero, List.set_cons_succ])
    refine wpList_val (v := ?_) rfl ?_ ?_
    rotate_left
    · (go_simp; (try (first | with_reducible rfl | (constructor <;> with_reducible rfl))))
    (try simp only [Act.put, List.setIfInBounds_toArray, List.set_cons_zero, List.set_cons_succ])
    first | (refine wpList_val (v := ?_) (by rfl) ?_ ?_; rotate_left; focus ((go_simp; (try (first | with_reducible rfl | (constructor <;> with_reducible rfl)))))) | refine wpList_skip (by rfl) ?_
    (try simp only [Act.put, List.setIfInBounds_toArray, List.set_cons_zero, List.set_cons_succ])
    first | (refine wpList_val (v := ?_) (by rfl) ?_ ?_; rotate_left; focus ((go_simp; (try (first | with_reducible rfl | (constructor <;> with_reducible rfl)))))) | refine wpList_skip (by rfl) ?_
    (try simp only [Act.put, List.setIfInBounds_toArray, List.set_cons_zero, List.set_cons_succ])
    first | (refine wpList_val (v := ?_) (by rfl) ?_ ?_; rotate_left; focus ((go_simp; (try (first | with_reducible rfl | (constructor <;> with_reducible rfl)))))) | refine wpList_skip (by rfl) ?_
    (try simp only [Act.put, List.setIfInBounds_toArray, List.set_cons_zero, List.set_cons_succ])
    first | (refine wpList_val (v := ?_) (by rfl) ?_ ?_; rotate_left; focus ((go_simp; (try rw [w1']); (try with_reducible rfl)))) | refine wpList_skip (by rfl) ?_
    (try simp only [Act.put, List.setIfInBounds_toArray, List.set_cons_zero, List.set_cons_succ])
    first | (refine wpList_val (v := ?_) (by rfl) ?_ ?_; rotate_left; focus ((go_simp; (try simp only [d3]); (try with_reducible rfl)))) | refine wpList_skip (by rfl) ?_
    (try simp only [Act.put, List.setIfInBounds_toArray, List.set_cons_zero, List.set_cons_succ])
    refine wpList_val (v := ?_) rfl ?_ ?_
    rotate_left
    · (go_simp; (try (first | with_reducible rfl | (constructor <;> with_reducible rfl))))
    (try simp only [Act.put, List.setIfInBounds_toArray, List.set_cons_zero, List.set_cons_succ])
    refine wpList_nil ?_
    go_wp2_with fail
    go_ret
    exact ⟨rfl, B2.out⟩
structure ApS (b8 : Nat) (A : Nat → Int) (p : Option Addr) (n : Nat) (L : Nat → Int) (w wr : World) : Prop where
  below : Below w.heap.size w wr
  aB : Blk wr b8 29 300 A
  sl : Slc wr p n L
theorem ApS.down {b8 : Nat} {A : Nat → Int} {p : Option Addr} {n : Nat} {L : Nat → Int} {w wr w' : World} (s : ApS b8 A p n L w wr) (u : Below wr.heap.size wr w') : ApS b8 A p n L w w' := ⟨Below.after s.below u, s.aB.below u, s.sl.below u⟩
set_option maxHeartbeats 20000000 in
theorem apart_main (f : Nat → Int) (fr : Nat) (p : Option Addr) (n cp : Nat) (L : Nat → Int) (w : World) (hL : Slc w p n L) (hg : condH f = false) (hn : fr + n ≤ 24) (hf23 : fr ≤ 23) :
    Calls Try.prog 5 #[.agg (arrv 300 f), .int .i64 fr, .slice p n cp] w fun e w' => e = .returned (.bool true) ∧ Below w.heap.size w w' := by
  obtain ⟨a1, a2⟩ := apart_law f fr n L hn
  have a3 := step_good f (rtF fr n) (rtQ fr L n)
  obtain ⟨A, hA⟩ : ∃ x, stepF f (rtF fr n) (rtQ fr L n) = x := ⟨_, rfl⟩
  rw [hA] at a1 a2 a3
  have E1 := Lib.hid a1
  have E2 := Lib.hid a2
  have E3 := Lib.hid a3
  have EA := Lib.hid hA
  have d1 : decide ((fr : Int) < 0) = false := by simp
  have d2 : decide ((23 : Int) < (fr : Int)) = false := by simp; omega
  have d3 : decide ((24 : Int) - (fr : Int) < (n : Int)) = false := by simp; omega
  have w1' : IntKind.i64.wrap ((24 : Int) - (fr : Int)) = (24 : Int) - (fr : Int) := IntWalk.i64_in _ (by omega)
  clear a1 a2 a3 hA
  go_enter Try.func5, Try.ntmps5
  obtain ⟨W0, hW0⟩ : ∃ x, w.alloc (.cells (arrv 300 f) 29) = x := ⟨_, rfl⟩
  have P0 : Blk W0 w.heap.size 29 300 f := by rw [← hW0]; exact Blk.new w _ _ _
  have B0 : Below w.heap.size w W0 := by rw [← hW0]; exact (Below.refl _ _).alloc (Nat.le_refl _) _
  have L0 := hL.below B0
  go_upto_region 3 with (go_at_call 12; (refine (awake12_any _).mono ?_); rintro e w1 ⟨rfl, hb1⟩; have P1 := Lib.hid (P0.below hb1); have L1 := Lib.hid (L0.below hb1); have B1 := Lib.hid (Below.after B0 hb1); clear hb1)
  clear P0 B0 hW0 L0 hL
  refine wp_region_lit ?_
  refine wpList_val (v := ?_) rfl ?_ ?_
  rotate_left
  · refine Eq.trans (run_load_row 29 (.tmp 3) (by rfl) (w.heap.size) (by rfl) _ _ _ _ (P1.out) Try.underlying29 rfl (icov.trans (by rw [arrv_size]))) ?_; with_reducible rfl
  (try simp only [Act.put, List.setIfInBounds_toArray, List.set_cons_zero, List.set_cons_succ])
  refine wpList_step (fun K hK => ?_)
  go_simp
  (refine (good_any f _).mono ?_); rintro e w2 ⟨rfl, hb2⟩; (rw [hg]); have B2 := Lib.hid (Below.after B1.out hb2); have L2 := Lib.hid (L1.out.below hb2); have P2 := Lib.hid (P1.out.below hb2); clear hb2
  (try dsimp only)
  (try simp only [Act.put, List.setIfInBounds_toArray, List.set_cons_zero, List.set_cons_succ])
  refine hK _ _ ?_
  clear hK K
  refine wpList_val (v := ?_) rfl ?_ ?_
  rotate_left
  · (go_simp; (try (first | with_reducible rfl | (constructor <;> with_reducible rfl))))
  (try simp only [Act.put, List.setIfInBounds_toArray, List.set_cons_zero, List.set_cons_succ])
  refine wpList_val (v := ?_) rfl ?_ ?_
  rotate_left
  · (go_simp; (try (first | with_reducible rfl | (constructor <;> with_reducible rfl))))
  (try simp only [Act.put, List.setIfInBounds_toArray, List.set_cons_zero, List.set_cons_succ])
  first | (refine wpList_val (v := ?_) (by rfl) ?_ ?_; rotate_left; focus ((go_simp; (try (first | with_reducible rfl | (constructor <;> with_reducible rfl)))))) | refine wpList_skip (by rfl) ?_
  (try simp only [Act.put, List.setIfInBounds_toArray, List.set_cons_zero, List.set_cons_succ])
  first | (refine wpList_val (v := ?_) (by rfl) ?_ ?_; rotate_left; focus ((go_simp; (try simp only [d1]); (try with_reducible rfl)))) | refine wpList_skip (by rfl) ?_
  (try simp only [Act.put, List.setIfInBounds_toArray, List.set_cons_zero, List.set_cons_succ])
  refine wpList_val (v := ?_) rfl ?_ ?_
  rotate_left
  · (go_simp; (try (first | with_reducible rfl | (constructor <;> with_reducible rfl))))
  (try simp only [Act.put, List.setIfInBounds_toArray, List.set_cons_zero, List.set_cons_succ])
  refine wpList_val (v := ?_) rfl ?_ ?_
  rotate_left
  · (go_simp; (try (first | with_reducible rfl | (constructor <;> with_reducible rfl))))
  (try simp only [Act.put, List.setIfInBounds_toArray, List.set_cons_zero, List.set_cons_succ])
  first | (refine wpList_val (v := ?_) (by rfl) ?_ ?_; rotate_left; focus ((go_simp; (try (first | with_reducible rfl | (constructor <;> with_reducible rfl)))))) | refine wpList_skip (by rfl) ?_
  (try simp only [Act.put, List.setIfInBounds_toArray, List.set_cons_zero, List.set_cons_succ])
  first | (refine wpList_val (v := ?_) (by rfl) ?_ ?_; rotate_left; focus ((go_simp; (try simp only [d2]); (try with_reducible rfl)))) | refine wpList_skip (by rfl) ?_
  (try simp only [Act.put, List.setIfInBounds_toArray, List.set_cons_zero, List.set_cons_succ])
  refine wpList_val (v := ?_) rfl ?_ ?_
  rotate_left
  · (go_simp; (try (first | with_reducible rfl | (constructor <;> with_reducible rfl))))
  (try simp only [Act.put, List.setIfInBounds_toArray, List.set_cons_zero, List.set_cons_succ])
  refine wpList_val (v := ?_) rfl ?_ ?_
  rotate_left
  · (go_simp; (try (first | with_reducible rfl | (constructor <;> with_reducible rfl))))
  (try simp only [Act.put, List.setIfInBounds_toArray, List.set_cons_zero, List.set_cons_succ])
  first | (refine wpList_val (v := ?_) (by rfl) ?_ ?_; rotate_left; focus ((go_simp; (try (first | with_reducible rfl | (constructor <;> with_reducible rfl)))))) | refine wpList_skip (by rfl) ?_
  (try simp only [Act.put, List.setIfInBounds_toArray, List.set_cons_zero, List.set_cons_succ])
  first | (refine wpList_val (v := ?_) (by rfl) ?_ ?_; rotate_left; focus ((go_simp; (try (first | with_reducible rfl | (constructor <;> with_reducible rfl)))))) | refine wpList_skip (by rfl) ?_
  (try simp only [Act.put, List.setIfInBounds_toArray, List.set_cons_zero, List.set_cons_succ])
  first | (refine wpList_val (v := ?_) (by rfl) ?_ ?_; rotate_left; focus ((go_simp; (try (first | with_reducible rfl | (constructor <;> with_reducible rfl)))))) | refine wpList_skip (by rfl) ?_
  (try simp only [Act.put, List.setIfInBounds_toArray, List.set_cons_zero, List.set_cons_succ])
  first | (refine wpList_val (v := ?_) (by rfl) ?_ ?_; rotate_left; focus ((go_simp; (try rw [w1']); (try with_reducible rfl)))) | refine wpList_skip (by rfl) ?_
  (try simp only [Act.put, List.setIfInBounds_toArray, List.set_cons_zero, List.set_cons_succ])
  first | (refine wpList_val (v := ?_) (by rfl) ?_ ?_; rotate_left; focus ((go_simp; (try simp only [d3]); (try with_reducible rfl)))) | refine wpList_skip (by rfl) ?_
  (try simp only [Act.put, List.setIfInBounds_toArray, List.set_cons_zero, List.set_cons_succ])
  refine wpList_val (v := ?_) rfl ?_ ?_
  rotate_left
  · (go_simp; (try (first | with_reducible rfl | (constructor <;> with_reducible rfl))))
  (try simp only [Act.put, List.setIfInBounds_toArray, List.set_cons_zero, List.set_cons_succ])
  refine wpList_nil ?_
  clear d1 d2 d3 w1' B1 L1 P1
  obtain ⟨bc, hbc⟩ : ∃ x, w2.heap.size = x := ⟨_, rfl⟩
  have hbw : w.heap.size < bc := by rw [← hbc]; exact P2.out.lt
  have F3 : Flg (w2.alloc (.cells #[.bool false] 25)) bc false := by rw [← hbc]; exact Flg.new w2 false
  have P3 := P2.out.alloc (.cells #[.bool false] 25)
  have B3 := B2.out.alloc B2.out.size (.cells #[.bool false] 25)
  have L3 := L2.out.below (Below.alloc (Below.refl _ _) (Nat.le_refl _) (.cells #[.bool false] 25))
  go_upto_region 6 with fail
  (try rw [hbc])
  generalize w2.alloc (.cells #[.bool false] 25) = W3 at *
  clear hbc B2 L2 P2
  have RC := Lib.hid (reset_any ⟨bc, 0, none⟩ false f fr p n cp L W3 F3.cell F3.free L3 (by omega) (by omega))
  rw [EA.out] at RC
  go_upto_region 7 with (first | (refine wpList_load_row rfl 29 _ rfl (w.heap.size) rfl 29 _ (0, 0) _ (P3) Try.underlying29 rfl (icov.trans (by rw [arrv_size])) ?_) | (go_at_call 13; (refine RC.out.mono ?_); rintro e w4 ⟨rfl, hu4⟩; have B4 := Lib.hid (own_upd B3 (by show w.heap.size ≤ bc; omega) hu4); have L4 : Slc w4 p n L := (fun i hi => (by obtain ⟨b, o, rfl, hc⟩ := L3 i hi; exact ⟨b, o, rfl, (hu4.cell (World.block_lt_of_cell? _ _ hc) (fun e => by rw [← e, F3.cell] at hc; cases hc)).trans hc⟩)); have L4 := Lib.hid L4; have R4 := zblk w4; clear hu4) | (refine wpList_store_row rfl 29 _ _ rfl (w4.heap.size) _ rfl rfl 29 _ (R4) (icov.trans (by rw [arrv_size])) (by rw [arrv_size, arrv_size]) (oneCell_arrv _ _) ?_))
  obtain ⟨w5, hw5⟩ : ∃ x, x = ((w4.alloc (.cells Try.zeroCells29 29)).setRow w4.heap.size (arrv 300 A)) := ⟨_, rfl⟩
  rw [← hw5]
  obtain ⟨M5, MB⟩ := Blk.made zcov A hw5
  obtain ⟨b8, hb8⟩ : ∃ x, w4.heap.size = x := ⟨_, rfl⟩
  rw [hb8] at M5 ⊢
  have S5 : Hid (ApS b8 A p n L w w5) := Lib.hid ⟨Below.after B4.out MB, M5, L4.out.below MB⟩
  clear hw5 hb8 R4 RC F3 P3 B3 L3 B4 L4 MB
  go_upto_region 9 with (first | (refine wpList_load_row rfl 29 _ rfl (b8) rfl 29 _ (0, 0) _ (M5) Try.underlying29 rfl (icov.trans (by rw [arrv_size])) ?_) | (go_at_call 16; (refine (good_any A _).mono ?_); rintro e w6 ⟨rfl, hb6⟩; (rw [E3.out]); have S6 := Lib.hid (S5.out.down hb6); clear hb6))
  clear M5 S5 E3
  go_wp2_with fail
  go_loopw [9] (fun i wr => ∃ k : Nat, k ≤ n ∧ i = .int .i64 k ∧ Hid (ApS b8 A p n L w wr)) (fun i _ => n - (intOf i).toNat)
  case atStart => exact ⟨0, by omega, rfl, S6⟩
  case round =>
    obtain ⟨k, hk, rfl, R⟩ := hrel
    by_cases hkn : k < n
    · have d1 : decide ((k : Int) < (n : Int)) = true := by simp; omega
      obtain ⟨pb, po, rfl, hcell⟩ := R.out.sl k hkn
      have hD := E1.out k hkn
      have hU := Lib.hid (E2.out k hkn)
      have hfk : fr + k < 24 := by omega
      obtain ⟨z, hz⟩ : ∃ z, fr + k = z := ⟨_, rfl⟩
      rw [hz] at hD hU hfk
      have kz : (fr : Int) + (k : Int) = (z : Int) := by omega
      have kw : IntKind.i64.wrap (z : Int) = (z : Int) := IntWalk.i64_in _ (by omega)
      have m0 := R.out.aB.cell (i := 276 + z) (by omega)
      rw [hD] at m0
      clear hz
      obtain ⟨x, hx⟩ : ∃ x, L k = x := ⟨_, rfl⟩
      rw [hx] at m0 hcell
      have hv : (decide (x < 1) = true ∧ varV x = 1) ∨ (decide (x < 1) = false ∧ decide (72057594037927936 < x) = true ∧ varV x = 72057594037927936) ∨ (decide (x < 1) = false ∧ decide (72057594037927936 < x) = false ∧ varV x = x) := by
        unfold varV clampV
        by_cases h1 : x < 1
        · exact .inl ⟨by simpa using h1, by rw [if_neg (by omega), if_pos h1]⟩
        · by_cases h2 : 72057594037927936 < x
          · exact .inr (.inl ⟨by simpa using h1, by simpa using h2, by rw [if_neg (by omega), if_neg h1, if_pos h2]⟩)
          · exact .inr (.inr ⟨by simpa using h1, by simpa using h2, by rw [if_neg (by omega), if_neg h1, if_neg h2]⟩)
      clear hx hD S6
      rcases hv with ⟨q1, hv⟩ | ⟨q1, q2, hv⟩ | ⟨q1, q2, hv⟩
      all_goals
        rw [hv] at m0
        have q3 : (x != x) = false := by simp
        go_upto_region 19 with fail
        go_wp2_with fail
        go_loopw [11] (fun i wr => ∃ j : Nat, j ≤ 24 ∧ i = .int .i64 j ∧ Hid (ApS b8 A (some ⟨pb, po, none⟩) n L w wr)) (fun i _ => 24 - (intOf i).toNat)
        case atStart => exact ⟨0, by omega, rfl, R⟩
        case round =>
          obtain ⟨j, hj, rfl, T⟩ := hrel
          by_cases hlt : j < 24
          · have d2 : decide ((j : Int) < 24) = true := by simp; omega
            have A1 := T.out.aB
            by_cases hjk : j = z
            · have u1 : uV A z j = 1073741824 := by unfold uV; rw [if_pos hjk.symm]
              have u2 : uV A j z = 1073741824 := by unfold uV; rw [if_pos hjk]
              have b1 : ((j : Int) != (z : Int)) = false := by simp [hjk]
              clear hjk
              go_upto_region 22 with fail
              refine wp_region_lit ?_
              refine wpList_val (v := ?_) rfl ?_ ?_
              rotate_left
              · refine Eq.trans (run_load_row 29 (.tmp 8) (by rfl) (b8) (by rfl) _ _ _ _ (A1) Try.underlying29 rfl (icov.trans (by rw [arrv_size]))) ?_; with_reducible rfl
              (try simp only [Act.put, List.setIfInBounds_toArray, List.set_cons_zero, List.set_cons_succ])
              refine wpList_val (v := ?_) rfl ?_ ?_
              rotate_left
              · (go_simp; (try (first | with_reducible rfl | (constructor <;> with_reducible rfl))))
              (try simp only [Act.put, List.setIfInBounds_toArray, List.set_cons_zero, List.set_cons_succ])
              refine wpList_val (v := ?_) rfl ?_ ?_
              rotate_left
              · (go_simp; (try (first | with_reducible rfl | (constructor <;> with_reducible rfl))))
              (try simp only [Act.put, List.setIfInBounds_toArray, List.set_cons_zero, List.set_cons_succ])
              refine wpList_val (v := ?_) rfl ?_ ?_
              rotate_left
              · (go_simp; (try simp only [kz, kw]); (try with_reducible rfl))
              (try simp only [Act.put, List.setIfInBounds_toArray, List.set_cons_zero, List.set_cons_succ])
              refine wpList_val (v := ?_) rfl ?_ ?_
              rotate_left
              · (go_simp; (try (first | with_reducible rfl | (constructor <;> with_reducible rfl))))
              (try simp only [Act.put, List.setIfInBounds_toArray, List.set_cons_zero, List.set_cons_succ])
              refine wpList_step (fun K hK => ?_)
              go_simp
              (refine (u_any A z j _ hfk hlt).mono ?_); rintro e v1 ⟨rfl, hv1⟩; (rw [u1]); have T1 := Lib.hid (T.out.down hv1); have A2 := T1.out.aB; clear hv1
              (try dsimp only)
              (try simp only [Act.put, List.setIfInBounds_toArray, List.set_cons_zero, List.set_cons_succ])
              refine hK _ _ ?_
              clear hK K
              refine wpList_val (v := ?_) rfl ?_ ?_
              rotate_left
              · (go_simp; (try (first | with_reducible rfl | (constructor <;> with_reducible rfl))))
              (try simp only [Act.put, List.setIfInBounds_toArray, List.set_cons_zero, List.set_cons_succ])
              refine wpList_val (v := ?_) rfl ?_ ?_
              rotate_left
              · (go_simp; (try (first | with_reducible rfl | (constructor <;> with_reducible rfl))))
              (try simp only [Act.put, List.setIfInBounds_toArray, List.set_cons_zero, List.set_cons_succ])
              first | (refine wpList_val (v := ?_) (by rfl) ?_ ?_; rotate_left; focus ((go_simp; (try (first | with_reducible rfl | (constructor <;> with_reducible rfl)))))) | refine wpList_skip (by rfl) ?_
              (try simp only [Act.put, List.setIfInBounds_toArray, List.set_cons_zero, List.set_cons_succ])
              first | (refine wpList_val (v := ?_) (by rfl) ?_ ?_; rotate_left; focus ((go_simp; (try (first | with_reducible rfl | (constructor <;> with_reducible rfl)))))) | refine wpList_skip (by rfl) ?_
              (try simp only [Act.put, List.setIfInBounds_toArray, List.set_cons_zero, List.set_cons_succ])
              first | (refine wpList_val (v := ?_) (by rfl) ?_ ?_; rotate_left; focus ((go_simp; (try (first | with_reducible rfl | (constructor <;> with_reducible rfl)))))) | refine wpList_skip (by rfl) ?_
              (try simp only [Act.put, List.setIfInBounds_toArray, List.set_cons_zero, List.set_cons_succ])
              first | (refine wpList_val (v := ?_) (by rfl) ?_ ?_; rotate_left; focus ((go_simp; (try simp only [kz, kw]); (try with_reducible rfl)))) | refine wpList_skip (by rfl) ?_
              (try simp only [Act.put, List.setIfInBounds_toArray, List.set_cons_zero, List.set_cons_succ])
              first | (refine wpList_val (v := ?_) (by rfl) ?_ ?_; rotate_left; focus ((go_simp; (try rw [b1]); (try with_reducible rfl)))) | refine wpList_skip (by rfl) ?_
              (try simp only [Act.put, List.setIfInBounds_toArray, List.set_cons_zero, List.set_cons_succ])
              refine wpList_val (v := ?_) rfl ?_ ?_
              rotate_left
              · (go_simp; (try (first | with_reducible rfl | (constructor <;> with_reducible rfl))))
              (try simp only [Act.put, List.setIfInBounds_toArray, List.set_cons_zero, List.set_cons_succ])
              refine wpList_val (v := ?_) rfl ?_ ?_
              rotate_left
              · (go_simp; (try (first | with_reducible rfl | (constructor <;> with_reducible rfl))))
              (try simp only [Act.put, List.setIfInBounds_toArray, List.set_cons_zero, List.set_cons_succ])
              first | (refine wpList_val (v := ?_) (by rfl) ?_ ?_; rotate_left; focus (refine Eq.trans (run_load_row 29 (.tmp 8) (by rfl) (b8) (by rfl) _ _ _ _ (A2) Try.underlying29 rfl (icov.trans (by rw [arrv_size]))) ?_; with_reducible rfl)) | refine wpList_skip (by rfl) ?_
              (try simp only [Act.put, List.setIfInBounds_toArray, List.set_cons_zero, List.set_cons_succ])
              first | (refine wpList_val (v := ?_) (by rfl) ?_ ?_; rotate_left; focus ((go_simp; (try (first | with_reducible rfl | (constructor <;> with_reducible rfl)))))) | refine wpList_skip (by rfl) ?_
              (try simp only [Act.put, List.setIfInBounds_toArray, List.set_cons_zero, List.set_cons_succ])
              first | (refine wpList_val (v := ?_) (by rfl) ?_ ?_; rotate_left; focus ((go_simp; (try (first | with_reducible rfl | (constructor <;> with_reducible rfl)))))) | refine wpList_skip (by rfl) ?_
              (try simp only [Act.put, List.setIfInBounds_toArray, List.set_cons_zero, List.set_cons_succ])
              first | (refine wpList_val (v := ?_) (by rfl) ?_ ?_; rotate_left; focus ((go_simp; (try (first | with_reducible rfl | (constructor <;> with_reducible rfl)))))) | refine wpList_skip (by rfl) ?_
              (try simp only [Act.put, List.setIfInBounds_toArray, List.set_cons_zero, List.set_cons_succ])
              first | (refine wpList_val (v := ?_) (by rfl) ?_ ?_; rotate_left; focus ((go_simp; (try simp only [kz, kw]); (try with_reducible rfl)))) | refine wpList_skip (by rfl) ?_
              (try simp only [Act.put, List.setIfInBounds_toArray, List.set_cons_zero, List.set_cons_succ])
              refine wpList_step (fun K hK => ?_)
              go_simp
              (refine (u_any A j z _ hlt hfk).mono ?_); rintro e v2 ⟨rfl, hv2⟩; (rw [u2]); have T2 := Lib.hid (T1.out.down hv2); clear hv2
              (try dsimp only)
              (try simp only [Act.put, List.setIfInBounds_toArray, List.set_cons_zero, List.set_cons_succ])
              refine hK _ _ ?_
              clear hK K
              first | (refine wpList_val (v := ?_) (by rfl) ?_ ?_; rotate_left; focus ((go_simp; (try (first | with_reducible rfl | (constructor <;> with_reducible rfl)))))) | refine wpList_skip (by rfl) ?_
              (try simp only [Act.put, List.setIfInBounds_toArray, List.set_cons_zero, List.set_cons_succ])
              first | (refine wpList_val (v := ?_) (by rfl) ?_ ?_; rotate_left; focus ((go_simp; (try (first | with_reducible rfl | (constructor <;> with_reducible rfl)))))) | refine wpList_skip (by rfl) ?_
              (try simp only [Act.put, List.setIfInBounds_toArray, List.set_cons_zero, List.set_cons_succ])
              first | (refine wpList_val (v := ?_) (by rfl) ?_ ?_; rotate_left; focus ((go_simp; (try (first | with_reducible rfl | (constructor <;> with_reducible rfl)))))) | refine wpList_skip (by rfl) ?_
              (try simp only [Act.put, List.setIfInBounds_toArray, List.set_cons_zero, List.set_cons_succ])
              first | (refine wpList_val (v := ?_) (by rfl) ?_ ?_; rotate_left; focus ((go_simp; (try (first | with_reducible rfl | (constructor <;> with_reducible rfl)))))) | refine wpList_skip (by rfl) ?_
              (try simp only [Act.put, List.setIfInBounds_toArray, List.set_cons_zero, List.set_cons_succ])
              first | (refine wpList_val (v := ?_) (by rfl) ?_ ?_; rotate_left; focus ((go_simp; (try (first | with_reducible rfl | (constructor <;> with_reducible rfl)))))) | refine wpList_skip (by rfl) ?_
              (try simp only [Act.put, List.setIfInBounds_toArray, List.set_cons_zero, List.set_cons_succ])
              first | (refine wpList_val (v := ?_) (by rfl) ?_ ?_; rotate_left; focus ((go_simp; (try simp only [kz, kw]); (try with_reducible rfl)))) | refine wpList_skip (by rfl) ?_
              (try simp only [Act.put, List.setIfInBounds_toArray, List.set_cons_zero, List.set_cons_succ])
              first | (refine wpList_val (v := ?_) (by rfl) ?_ ?_; rotate_left; focus ((go_simp; (try rw [b1]); (try with_reducible rfl)))) | refine wpList_skip (by rfl) ?_
              (try simp only [Act.put, List.setIfInBounds_toArray, List.set_cons_zero, List.set_cons_succ])
              first | (refine wpList_val (v := ?_) (by rfl) ?_ ?_; rotate_left; focus ((go_simp; (try (first | with_reducible rfl | (constructor <;> with_reducible rfl)))))) | refine wpList_skip (by rfl) ?_
              (try simp only [Act.put, List.setIfInBounds_toArray, List.set_cons_zero, List.set_cons_succ])
              refine wpList_val (v := ?_) rfl ?_ ?_
              rotate_left
              · (go_simp; (try (first | with_reducible rfl | (constructor <;> with_reducible rfl))))
              (try simp only [Act.put, List.setIfInBounds_toArray, List.set_cons_zero, List.set_cons_succ])
              refine wpList_nil ?_
              clear A1 A2 T T1
              go_wp2_with fail
              go_roundw
              case rel => exact ⟨j + 1, by omega, by go_num, T2⟩
              case measure => simp [intOf]; omega
            · obtain ⟨u1, u2⟩ := hU.out j hlt hjk
              clear hjk
              go_upto_region 22 with fail
              refine wp_region_lit ?_
              refine wpList_val (v := ?_) rfl ?_ ?_
              rotate_left
              · refine Eq.trans (run_load_row 29 (.tmp 8) (by rfl) (b8) (by rfl) _ _ _ _ (A1) Try.underlying29 rfl (icov.trans (by rw [arrv_size]))) ?_; with_reducible rfl
              (try simp only [Act.put, List.setIfInBounds_toArray, List.set_cons_zero, List.set_cons_succ])
              refine wpList_val (v := ?_) rfl ?_ ?_
              rotate_left
              · (go_simp; (try (first | with_reducible rfl | (constructor <;> with_reducible rfl))))
              (try simp only [Act.put, List.setIfInBounds_toArray, List.set_cons_zero, List.set_cons_succ])
              refine wpList_val (v := ?_) rfl ?_ ?_
              rotate_left
              · (go_simp; (try (first | with_reducible rfl | (constructor <;> with_reducible rfl))))
              (try simp only [Act.put, List.setIfInBounds_toArray, List.set_cons_zero, List.set_cons_succ])
              refine wpList_val (v := ?_) rfl ?_ ?_
              rotate_left
              · (go_simp; (try simp only [kz, kw]); (try with_reducible rfl))
              (try simp only [Act.put, List.setIfInBounds_toArray, List.set_cons_zero, List.set_cons_succ])
              refine wpList_val (v := ?_) rfl ?_ ?_
              rotate_left
              · (go_simp; (try (first | with_reducible rfl | (constructor <;> with_reducible rfl))))
              (try simp only [Act.put, List.setIfInBounds_toArray, List.set_cons_zero, List.set_cons_succ])
              refine wpList_step (fun K hK => ?_)
              go_simp
              (refine (u_any A z j _ hfk hlt).mono ?_); rintro e v1 ⟨rfl, hv1⟩; (rw [u1]); have T1 := Lib.hid (T.out.down hv1); have A2 := T1.out.aB; clear hv1
              (try dsimp only)
              (try simp only [Act.put, List.setIfInBounds_toArray, List.set_cons_zero, List.set_cons_succ])
              refine hK _ _ ?_
              clear hK K
              refine wpList_val (v := ?_) rfl ?_ ?_
              rotate_left
              · (go_simp; (try (first | with_reducible rfl | (constructor <;> with_reducible rfl))))
              (try simp only [Act.put, List.setIfInBounds_toArray, List.set_cons_zero, List.set_cons_succ])
              refine wpList_val (v := ?_) rfl ?_ ?_
              rotate_left
              · (go_simp; (try (first | with_reducible rfl | (constructor <;> with_reducible rfl))))
              (try simp only [Act.put, List.setIfInBounds_toArray, List.set_cons_zero, List.set_cons_succ])
              first | (refine wpList_val (v := ?_) (by rfl) ?_ ?_; rotate_left; focus ((go_simp; (try (first | with_reducible rfl | (constructor <;> with_reducible rfl)))))) | refine wpList_skip (by rfl) ?_
              (try simp only [Act.put, List.setIfInBounds_toArray, List.set_cons_zero, List.set_cons_succ])
              first | (refine wpList_val (v := ?_) (by rfl) ?_ ?_; rotate_left; focus ((go_simp; (try (first | with_reducible rfl | (constructor <;> with_reducible rfl)))))) | refine wpList_skip (by rfl) ?_
              (try simp only [Act.put, List.setIfInBounds_toArray, List.set_cons_zero, List.set_cons_succ])
              first | (refine wpList_val (v := ?_) (by rfl) ?_ ?_; rotate_left; focus ((go_simp; (try (first | with_reducible rfl | (constructor <;> with_reducible rfl)))))) | refine wpList_skip (by rfl) ?_
              (try simp only [Act.put, List.setIfInBounds_toArray, List.set_cons_zero, List.set_cons_succ])
              first | (refine wpList_val (v := ?_) (by rfl) ?_ ?_; rotate_left; focus ((go_simp; (try simp only [kz, kw]); (try with_reducible rfl)))) | refine wpList_skip (by rfl) ?_
              (try simp only [Act.put, List.setIfInBounds_toArray, List.set_cons_zero, List.set_cons_succ])
              first | (refine wpList_val (v := ?_) (by rfl) ?_ ?_; rotate_left; focus ((go_simp; (try (first | with_reducible rfl | (constructor <;> with_reducible rfl)))))) | refine wpList_skip (by rfl) ?_
              (try simp only [Act.put, List.setIfInBounds_toArray, List.set_cons_zero, List.set_cons_succ])
              refine wpList_val (v := ?_) rfl ?_ ?_
              rotate_left
              · (go_simp; (try (first | with_reducible rfl | (constructor <;> with_reducible rfl))))
              (try simp only [Act.put, List.setIfInBounds_toArray, List.set_cons_zero, List.set_cons_succ])
              refine wpList_val (v := ?_) rfl ?_ ?_
              rotate_left
              · (go_simp; (try (first | with_reducible rfl | (constructor <;> with_reducible rfl))))
              (try simp only [Act.put, List.setIfInBounds_toArray, List.set_cons_zero, List.set_cons_succ])
              first | (refine wpList_val (v := ?_) (by rfl) ?_ ?_; rotate_left; focus (refine Eq.trans (run_load_row 29 (.tmp 8) (by rfl) (b8) (by rfl) _ _ _ _ (A2) Try.underlying29 rfl (icov.trans (by rw [arrv_size]))) ?_; with_reducible rfl)) | refine wpList_skip (by rfl) ?_
              (try simp only [Act.put, List.setIfInBounds_toArray, List.set_cons_zero, List.set_cons_succ])
              first | (refine wpList_val (v := ?_) (by rfl) ?_ ?_; rotate_left; focus ((go_simp; (try (first | with_reducible rfl | (constructor <;> with_reducible rfl)))))) | refine wpList_skip (by rfl) ?_
              (try simp only [Act.put, List.setIfInBounds_toArray, List.set_cons_zero, List.set_cons_succ])
              first | (refine wpList_val (v := ?_) (by rfl) ?_ ?_; rotate_left; focus ((go_simp; (try (first | with_reducible rfl | (constructor <;> with_reducible rfl)))))) | refine wpList_skip (by rfl) ?_
              (try simp only [Act.put, List.setIfInBounds_toArray, List.set_cons_zero, List.set_cons_succ])
              first | (refine wpList_val (v := ?_) (by rfl) ?_ ?_; rotate_left; focus ((go_simp; (try (first | with_reducible rfl | (constructor <;> with_reducible rfl)))))) | refine wpList_skip (by rfl) ?_
              (try simp only [Act.put, List.setIfInBounds_toArray, List.set_cons_zero, List.set_cons_succ])
              first | (refine wpList_val (v := ?_) (by rfl) ?_ ?_; rotate_left; focus ((go_simp; (try simp only [kz, kw]); (try with_reducible rfl)))) | refine wpList_skip (by rfl) ?_
              (try simp only [Act.put, List.setIfInBounds_toArray, List.set_cons_zero, List.set_cons_succ])
              refine wpList_step (fun K hK => ?_)
              go_simp
              (refine (u_any A j z _ hlt hfk).mono ?_); rintro e v2 ⟨rfl, hv2⟩; (rw [u2]); have T2 := Lib.hid (T1.out.down hv2); clear hv2
              (try dsimp only)
              (try simp only [Act.put, List.setIfInBounds_toArray, List.set_cons_zero, List.set_cons_succ])
              refine hK _ _ ?_
              clear hK K
              first | (refine wpList_val (v := ?_) (by rfl) ?_ ?_; rotate_left; focus ((go_simp; (try (first | with_reducible rfl | (constructor <;> with_reducible rfl)))))) | refine wpList_skip (by rfl) ?_
              (try simp only [Act.put, List.setIfInBounds_toArray, List.set_cons_zero, List.set_cons_succ])
              first | (refine wpList_val (v := ?_) (by rfl) ?_ ?_; rotate_left; focus ((go_simp; (try (first | with_reducible rfl | (constructor <;> with_reducible rfl)))))) | refine wpList_skip (by rfl) ?_
              (try simp only [Act.put, List.setIfInBounds_toArray, List.set_cons_zero, List.set_cons_succ])
              first | (refine wpList_val (v := ?_) (by rfl) ?_ ?_; rotate_left; focus ((go_simp; (try (first | with_reducible rfl | (constructor <;> with_reducible rfl)))))) | refine wpList_skip (by rfl) ?_
              (try simp only [Act.put, List.setIfInBounds_toArray, List.set_cons_zero, List.set_cons_succ])
              first | (refine wpList_val (v := ?_) (by rfl) ?_ ?_; rotate_left; focus ((go_simp; (try (first | with_reducible rfl | (constructor <;> with_reducible rfl)))))) | refine wpList_skip (by rfl) ?_
              (try simp only [Act.put, List.setIfInBounds_toArray, List.set_cons_zero, List.set_cons_succ])
              first | (refine wpList_val (v := ?_) (by rfl) ?_ ?_; rotate_left; focus ((go_simp; (try (first | with_reducible rfl | (constructor <;> with_reducible rfl)))))) | refine wpList_skip (by rfl) ?_
              (try simp only [Act.put, List.setIfInBounds_toArray, List.set_cons_zero, List.set_cons_succ])
              first | (refine wpList_val (v := ?_) (by rfl) ?_ ?_; rotate_left; focus ((go_simp; (try simp only [kz, kw]); (try with_reducible rfl)))) | refine wpList_skip (by rfl) ?_
              (try simp only [Act.put, List.setIfInBounds_toArray, List.set_cons_zero, List.set_cons_succ])
              first | (refine wpList_val (v := ?_) (by rfl) ?_ ?_; rotate_left; focus ((go_simp; (try (first | with_reducible rfl | (constructor <;> with_reducible rfl)))))) | refine wpList_skip (by rfl) ?_
              (try simp only [Act.put, List.setIfInBounds_toArray, List.set_cons_zero, List.set_cons_succ])
              first | (refine wpList_val (v := ?_) (by rfl) ?_ ?_; rotate_left; focus ((go_simp; (try (first | with_reducible rfl | (constructor <;> with_reducible rfl)))))) | refine wpList_skip (by rfl) ?_
              (try simp only [Act.put, List.setIfInBounds_toArray, List.set_cons_zero, List.set_cons_succ])
              refine wpList_val (v := ?_) rfl ?_ ?_
              rotate_left
              · (go_simp; (try (first | with_reducible rfl | (constructor <;> with_reducible rfl))))
              (try simp only [Act.put, List.setIfInBounds_toArray, List.set_cons_zero, List.set_cons_succ])
              refine wpList_nil ?_
              clear A1 A2 T T1
              go_wp2_with fail
              go_roundw
              case rel => exact ⟨j + 1, by omega, by go_num, T2⟩
              case measure => simp [intOf]; omega
          · have hj24 : j = 24 := by omega
            subst hj24
            go_wp2_with fail
            go_roundw
            case rel => exact ⟨k + 1, by omega, by go_num, T⟩
            case measure => simp [intOf]; omega
    · have hkn2 : k = n := by omega
      subst hkn2
      have d1 : decide ((k : Int) < (k : Int)) = false := by simp
      go_wp2_with fail
      go_ret
      exact ⟨rfl, R.out.below⟩
theorem apart_walk (f : Nat → Int) (fr : Int) (p : Option Addr) (n cp : Nat) (L : Nat → Int) (w : World) (hL : Slc w p n L) :
    Calls Try.prog 5 #[.agg (arrv 300 f), .int .i64 fr, .slice p n cp] w fun e w' => e = .returned (.bool true) ∧ Below w.heap.size w w' := by
  cases hg : condH f with
  | true => exact apart_noop f fr p n cp w (.inl hg)
  | false =>
    by_cases h1 : fr < 0
    · exact apart_noop f fr p n cp w (.inr (.inl ⟨hg, h1⟩))
    · by_cases h2 : 23 < fr
      · exact apart_noop f fr p n cp w (.inr (.inr (.inl ⟨hg, h2⟩)))
      · by_cases h3 : 24 - fr < (n : Int)
        · exact apart_noop f fr p n cp w (.inr (.inr (.inr ⟨hg, by omega, by omega, h3⟩)))
        · obtain ⟨m, rfl⟩ : ∃ m : Nat, fr = (m : Int) := ⟨fr.toNat, by omega⟩
          exact apart_main f m p n cp L w hL hg (by omega) (by omega)
end Go.Proofs.Ytglpbcionohipaa
