/- The walk of BiermanLearns. -/
import Derived.Test.YtkfapackpggagaaNothW
import Derived.Deep.QuietTactic
import Derived.BigQuiet
namespace Go.Proofs.Ytkfapackpggagaa
open Go.RowKit
set_option maxRecDepth 100000
/-- The plain law. -/
theorem learn_law (p H : Nat → Int) (r : Int) :
    condH (updP p H r) = false ∧ condH (updP (updP p H r) H r) = false ∧ (∀ i, i < 24 → updP p H r (276 + i) ≤ condF p (276 + i)) ∧ (∀ i, i < 24 → updP (updP p H r) H r (276 + i) ≤ updP p H r (276 + i)) ∧
    1 ≤ updS p H r ∧ 1 ≤ updS (updP p H r) H r ∧ (r ≤ 72057594037927936 → r ≤ updS p H r) := by
  obtain ⟨a1, a2, a3⟩ := upd_learns p H r
  obtain ⟨b1, b2, b3⟩ := upd_learns (updP p H r) H r
  have hv := varV_bd r
  refine ⟨a1, b1, a2, fun i hi => ?_, by omega, by omega, fun hr => ?_⟩
  · have := b2 i hi
    rwa [cond_good a1 _ (by omega)] at this
  · have : r ≤ varV r := by unfold varV clampV; split; omega; split; omega; split <;> omega
    omega
structure LnR (bc bq ba bb : Nat) (Q A B : Nat → Int) (w wr : World) : Prop where
  below : Below w.heap.size w wr
  qB : Blk wr bq 25 300 Q
  aB : Blk wr ba 25 300 A
  bB : Blk wr bb 25 300 B
theorem LnR.down {bc bq ba bb : Nat} {Q A B : Nat → Int} {w wr w' : World} (s : LnR bc bq ba bb Q A B w wr) (u : Below wr.heap.size wr w') : LnR bc bq ba bb Q A B w w' :=
  ⟨Below.after s.below u, s.qB.below u, s.aB.below u, s.bB.below u⟩
theorem LnR.drew {bc bq ba bb : Nat} {Q A B : Nat → Int} {w wr : World} (s : LnR bc bq ba bb Q A B w wr) : LnR bc bq ba bb Q A B w wr.drew := ⟨s.below.drew, s.qB, s.aB, s.bB⟩
theorem LnR.drews {bc bq ba bb : Nat} {Q A B : Nat → Int} {w wr : World} (s : LnR bc bq ba bb Q A B w wr) : ∀ n, LnR bc bq ba bb Q A B w (wr.drewN n) := fun n => ⟨below_drewN s.below n, s.qB, s.aB, s.bB⟩
theorem ln_keep {bc bq ba bb : Nat} {Q A B : Nat → Int} {w wr : World} (s : LnR bc bq ba bb Q A B w wr) {i : Nat} (hi : i < 24) :
    wr.cell? ⟨ba, 276 + i, none⟩ = some (.int .i64 (A (276 + i))) ∧ wr.cell? ⟨bq, 276 + i, none⟩ = some (.int .i64 (Q (276 + i))) ∧ wr.cell? ⟨bb, 276 + i, none⟩ = some (.int .i64 (B (276 + i))) :=
  ⟨s.aB.cell (by omega), s.qB.cell (by omega), s.bB.cell (by omega)⟩
set_option maxHeartbeats 4000000 in
theorem learns_walk (p H : Nat → Int) (r : Int) (w : World) :
    Calls Try.prog 6 #[.agg (arrv 300 p), .agg (arrv 24 H), .int .i64 r] w fun e w' => e = .returned (.bool true) ∧ Below w.heap.size w w' := by
  go_enter Try.func6, Try.ntmps6
  obtain ⟨W0, hW0⟩ : ∃ x, (w.alloc (.cells (arrv 300 p) 25)).alloc (.cells (arrv 24 H) 31) = x := ⟨_, rfl⟩
  have P0 : Blk W0 w.heap.size 25 300 p := by rw [← hW0]; exact (Blk.new w _ _ _).alloc _
  have H0 : Blk W0 (w.heap.size + 1) 31 24 H := by rw [← hW0]; exact Blk.new1 w _ _ _ _
  have B0 : Below w.heap.size w W0 := by rw [← hW0]; exact ((Below.refl _ _).alloc (Nat.le_refl _) _).alloc (by simp) _
  go_upto_region 3 with (go_at_call 8; (refine (awake_any _).mono ?_); rintro e w1 ⟨rfl, hb1⟩; have P1 := Lib.hid (P0.below hb1); have H1 := Lib.hid (H0.below hb1); have B1 := Lib.hid (Below.after B0 hb1); clear hb1)
  obtain ⟨bc, hbc⟩ : ∃ x, w1.heap.size = x := ⟨_, rfl⟩
  have hbp : w.heap.size + 1 < bc := by rw [← hbc]; exact H1.out.lt
  have F2 : Flg (w1.alloc (.cells #[.bool false] 29)) bc false := by rw [← hbc]; exact Flg.new w1 false
  have P2 := P1.out.alloc (.cells #[.bool false] 29)
  have H2 := Lib.hid (H1.out.alloc (.cells #[.bool false] 29))
  have B2 := Lib.hid (B1.out.alloc B1.out.size (.cells #[.bool false] 29))
  clear P0 B0 H0 P1 B1 H1 hW0
  go_upto_region 4 with fail
  (try rw [hbc])
  generalize w1.alloc (.cells #[.bool false] 29) = W2 at *
  clear hbc
  have C2 := Lib.hid (cond_any ⟨bc, 0, none⟩ false p W2 F2.cell F2.free)
  go_upto_region 5 with (first | (refine wpList_load_row rfl 25 _ rfl (w.heap.size) rfl 25 _ (0, 0) _ (P2) Try.underlying25 rfl (icov.trans (by rw [arrv_size])) ?_) | (go_at_call 9; (refine C2.out.mono ?_); rintro e w3 ⟨rfl, hu3⟩; have F3 := Lib.hid (F2.hit hu3); have P3 := Lib.hid (P2.upd hu3 (by show w.heap.size ≠ bc; omega)); have H3 := Lib.hid (H2.out.upd hu3 (by show w.heap.size + 1 ≠ bc; omega)); have B3 := Lib.hid (own_upd B2.out (by show w.heap.size ≤ bc; omega) hu3); have R3 : Blk (w3.alloc (.cells Try.zeroCells25 25)) w3.heap.size 25 300 (fun _ => 0) := (by rw [zcov]; exact Blk.new _ _ _ _); clear hu3) | (refine wpList_store_row rfl 25 _ _ rfl (w3.heap.size) _ rfl rfl 25 _ (R3) (icov.trans (by rw [arrv_size])) (by rw [arrv_size, arrv_size]) (oneCell_arrv _ _) ?_))
  obtain ⟨w4, hw4⟩ : ∃ x, x = ((w3.alloc (.cells Try.zeroCells25 25)).setRow w3.heap.size (arrv 300 (condF p))) := ⟨_, rfl⟩
  rw [← hw4]
  obtain ⟨M4, MB4⟩ := Blk.made zcov (condF p) hw4
  have F4 := F3.out.below MB4
  have P4 := P3.out.below MB4
  have H4 := H3.out.below MB4
  have B4 := Lib.hid (Below.after B3.out MB4)
  have hb4 : bc < w3.heap.size := F3.out.lt
  obtain ⟨bw, hbw⟩ : ∃ x, w3.heap.size = x := ⟨_, rfl⟩
  rw [hbw] at M4 hb4 ⊢
  clear hw4 R3 F2 P2 B2 C2 H2 F3 P3 B3 H3 MB4 hbw
  have LL := Lib.hid (learn_law p H r)
  obtain ⟨SV, hSV⟩ : ∃ x, updS p H r = x := ⟨_, rfl⟩
  obtain ⟨Fa, hFa⟩ : ∃ x, updP p H r = x := ⟨_, rfl⟩
  obtain ⟨Ga, hGa⟩ : ∃ x, updG p H r = x := ⟨_, rfl⟩
  obtain ⟨Wq, hWq⟩ : ∃ x, condF p = x := ⟨_, rfl⟩
  obtain ⟨TV, hTV⟩ : ∃ x, updS Fa H r = x := ⟨_, rfl⟩
  obtain ⟨Fb, hFb⟩ : ∃ x, updP Fa H r = x := ⟨_, rfl⟩
  obtain ⟨Gb, hGb⟩ : ∃ x, updG Fa H r = x := ⟨_, rfl⟩
  have U4 := update_any ⟨bc, 0, none⟩ _ p H r w4 F4.cell F4.free
  rw [hSV, hFa, hGa] at U4
  have U4 := Lib.hid U4
  rw [hFa, hSV, hWq, hTV, hFb] at LL
  rw [hWq] at M4 ⊢
  have EB := Lib.hid (And.intro hTV (And.intro hFb hGb))
  clear hSV hFa hGa hWq hTV hFb hGb
  go_upto_region 6 with (first | (refine wpList_load_row rfl 25 _ rfl (w.heap.size) rfl 25 _ (0, 0) _ (P4) Try.underlying25 rfl (icov.trans (by rw [arrv_size])) ?_) | (refine wpList_load_row rfl 31 _ rfl (w.heap.size + 1) rfl 31 _ (0, 0) _ (H4) Try.underlying31 rfl (irow.trans (by rw [arrv_size])) ?_) | (go_at_call 10; (refine U4.out.mono ?_); rintro e w5 ⟨rfl, hu5⟩; have F5 := Lib.hid (F4.hit hu5); have H5 := Lib.hid (H4.upd hu5 (by show w.heap.size + 1 ≠ bc; omega)); have M5 := Lib.hid (M4.upd hu5 (by show bw ≠ bc; omega)); have B5 := Lib.hid (own_upd B4.out (by show w.heap.size ≤ bc; omega) hu5); (have RA : Blk ((w5.alloc (.cells Try.zeroCells25 25)).alloc (.cells #[.int .i64 0, .int .i64 0, .int .i64 0, .int .i64 0, .int .i64 0, .int .i64 0, .int .i64 0, .int .i64 0, .int .i64 0, .int .i64 0, .int .i64 0, .int .i64 0, .int .i64 0, .int .i64 0, .int .i64 0, .int .i64 0, .int .i64 0, .int .i64 0, .int .i64 0, .int .i64 0, .int .i64 0, .int .i64 0, .int .i64 0, .int .i64 0] 31)) w5.heap.size 25 300 (fun _ => 0) := (by rw [zcov]; exact (Blk.new _ _ _ _).alloc _); have RB : Blk (((w5.alloc (.cells Try.zeroCells25 25)).alloc (.cells #[.int .i64 0, .int .i64 0, .int .i64 0, .int .i64 0, .int .i64 0, .int .i64 0, .int .i64 0, .int .i64 0, .int .i64 0, .int .i64 0, .int .i64 0, .int .i64 0, .int .i64 0, .int .i64 0, .int .i64 0, .int .i64 0, .int .i64 0, .int .i64 0, .int .i64 0, .int .i64 0, .int .i64 0, .int .i64 0, .int .i64 0, .int .i64 0] 31)).setRow w5.heap.size (arrv 300 (Fa))) (w5.heap.size + 1) 31 24 (fun _ => 0) := (by rw [zrow]; exact (Blk.new1 _ _ _ _ _).setRow_other _ (by omega))); clear hu5) | (refine wpList_store_row rfl 25 _ _ rfl (w5.heap.size) _ rfl rfl 25 _ (RA) (icov.trans (by rw [arrv_size])) (by rw [arrv_size, arrv_size]) (oneCell_arrv _ _) ?_) | (refine wpList_store_row rfl 31 _ _ rfl (w5.heap.size + 1) _ rfl rfl 31 _ (RB) (irow.trans (by rw [arrv_size])) (by rw [arrv_size, arrv_size]) (oneCell_arrv _ _) ?_))
  obtain ⟨w6, hw6⟩ : ∃ x, x = ((((w5.alloc (.cells Try.zeroCells25 25)).alloc (.cells #[.int .i64 0, .int .i64 0, .int .i64 0, .int .i64 0, .int .i64 0, .int .i64 0, .int .i64 0, .int .i64 0, .int .i64 0, .int .i64 0, .int .i64 0, .int .i64 0, .int .i64 0, .int .i64 0, .int .i64 0, .int .i64 0, .int .i64 0, .int .i64 0, .int .i64 0, .int .i64 0, .int .i64 0, .int .i64 0, .int .i64 0, .int .i64 0] 31)).setRow w5.heap.size (arrv 300 (Fa))).setRow (w5.heap.size + 1) (arrv 24 (Ga))) := ⟨_, rfl⟩; rw [← hw6]; obtain ⟨N0, N1, NB⟩ := two_made _ _ hw6; clear hw6
  have F6 := F5.out.below NB
  have H6 := H5.out.below NB
  have M6 := Lib.hid (M5.out.below NB)
  have B6 := Lib.hid (Below.after B5.out NB)
  have N6 := N0
  have hb6 : bc < w5.heap.size := F5.out.lt
  obtain ⟨ba, hba⟩ : ∃ x, w5.heap.size = x := ⟨_, rfl⟩
  rw [hba] at N6 hb6 ⊢
  clear hba RA RB U4 F4 P4 M4 B4 H4 F5 M5 B5 H5 N0 N1 NB
  have U6 := update_any ⟨bc, 0, none⟩ _ Fa H r w6 F6.cell F6.free
  rw [EB.out.1, EB.out.2.1, EB.out.2.2] at U6
  have U6 := Lib.hid U6
  go_upto_region 7 with (first | (refine wpList_load_row rfl 25 _ rfl (ba) rfl 25 _ (0, 0) _ (N6) Try.underlying25 rfl (icov.trans (by rw [arrv_size])) ?_) | (refine wpList_load_row rfl 31 _ rfl (w.heap.size + 1) rfl 31 _ (0, 0) _ (H6) Try.underlying31 rfl (irow.trans (by rw [arrv_size])) ?_) | (go_at_call 10; (refine U6.out.mono ?_); rintro e w7 ⟨rfl, hu7⟩; have M7 := Lib.hid (M6.out.upd hu7 (by show bw ≠ bc; omega)); have A7 := Lib.hid (N6.upd hu7 (by show ba ≠ bc; omega)); have B7 := Lib.hid (own_upd B6.out (by show w.heap.size ≤ bc; omega) hu7); (have RA : Blk ((w7.alloc (.cells Try.zeroCells25 25)).alloc (.cells #[.int .i64 0, .int .i64 0, .int .i64 0, .int .i64 0, .int .i64 0, .int .i64 0, .int .i64 0, .int .i64 0, .int .i64 0, .int .i64 0, .int .i64 0, .int .i64 0, .int .i64 0, .int .i64 0, .int .i64 0, .int .i64 0, .int .i64 0, .int .i64 0, .int .i64 0, .int .i64 0, .int .i64 0, .int .i64 0, .int .i64 0, .int .i64 0] 31)) w7.heap.size 25 300 (fun _ => 0) := (by rw [zcov]; exact (Blk.new _ _ _ _).alloc _); have RB : Blk (((w7.alloc (.cells Try.zeroCells25 25)).alloc (.cells #[.int .i64 0, .int .i64 0, .int .i64 0, .int .i64 0, .int .i64 0, .int .i64 0, .int .i64 0, .int .i64 0, .int .i64 0, .int .i64 0, .int .i64 0, .int .i64 0, .int .i64 0, .int .i64 0, .int .i64 0, .int .i64 0, .int .i64 0, .int .i64 0, .int .i64 0, .int .i64 0, .int .i64 0, .int .i64 0, .int .i64 0, .int .i64 0] 31)).setRow w7.heap.size (arrv 300 (Fb))) (w7.heap.size + 1) 31 24 (fun _ => 0) := (by rw [zrow]; exact (Blk.new1 _ _ _ _ _).setRow_other _ (by omega))); clear hu7) | (refine wpList_store_row rfl 25 _ _ rfl (w7.heap.size) _ rfl rfl 25 _ (RA) (icov.trans (by rw [arrv_size])) (by rw [arrv_size, arrv_size]) (oneCell_arrv _ _) ?_) | (refine wpList_store_row rfl 31 _ _ rfl (w7.heap.size + 1) _ rfl rfl 31 _ (RB) (irow.trans (by rw [arrv_size])) (by rw [arrv_size, arrv_size]) (oneCell_arrv _ _) ?_))
  obtain ⟨w8, hw8⟩ : ∃ x, x = ((((w7.alloc (.cells Try.zeroCells25 25)).alloc (.cells #[.int .i64 0, .int .i64 0, .int .i64 0, .int .i64 0, .int .i64 0, .int .i64 0, .int .i64 0, .int .i64 0, .int .i64 0, .int .i64 0, .int .i64 0, .int .i64 0, .int .i64 0, .int .i64 0, .int .i64 0, .int .i64 0, .int .i64 0, .int .i64 0, .int .i64 0, .int .i64 0, .int .i64 0, .int .i64 0, .int .i64 0, .int .i64 0] 31)).setRow w7.heap.size (arrv 300 (Fb))).setRow (w7.heap.size + 1) (arrv 24 (Gb))) := ⟨_, rfl⟩; rw [← hw8]; obtain ⟨N0, N1, NB⟩ := two_made _ _ hw8; clear hw8
  obtain ⟨bb, hbb⟩ : ∃ x, w7.heap.size = x := ⟨_, rfl⟩
  rw [hbb] at N0 ⊢
  have R8 : Hid (LnR bc bw ba bb Wq Fa Fb w w8) := Lib.hid ⟨Below.after B7.out NB, M7.out.below NB, A7.out.below NB, N0⟩
  clear hbb RA RB U6 F6 H6 M6 B6 N6 M7 A7 B7 N0 N1 NB EB
  obtain ⟨l1, l2, l3, l4, l5, l6, l7⟩ := LL.out
  have l3 := Lib.hid l3
  have l4 := Lib.hid l4
  have L1 := Lib.hid l1
  have L2 := Lib.hid l2
  have l7 := Lib.hid l7
  clear l1 l2 LL
  have A8 := R8.out.aB
  have e5 : decide (SV < 1) = false := by simp; omega
  have e6 : decide (TV < 1) = false := by simp; omega
  have hc : (decide (SV < r) = false) ∨ (decide (SV < r) = true ∧ decide (r ≤ 72057594037927936) = false) := by
    by_cases h1 : r ≤ 72057594037927936
    · exact .inl (by have := l7.out h1; simp; omega)
    · by_cases h2 : SV < r
      · exact .inr ⟨by simpa using h2, by simpa using h1⟩
      · exact .inl (by simpa using h2)
  go_upto_region 7 with fail
  rcases hc with h1 | ⟨h1, h2⟩
  all_goals
    refine wp_region_lit ?_
    refine wpList_val (v := ?_) rfl ?_ ?_
    rotate_left
    · refine Eq.trans (run_load_row 25 (.tmp 9) (by rfl) (ba) (by rfl) _ _ _ _ (A8) Try.underlying25 rfl (icov.trans (by rw [arrv_size]))) ?_; with_reducible rfl
    (try simp only [Act.put, List.setIfInBounds_toArray, List.set_cons_zero, List.set_cons_succ])
    refine wpList_step (fun K hK => ?_)
    go_simp
    (refine (good_any Fa _).mono ?_); rintro e w9 ⟨rfl, hb9⟩; (rw [L1.out]); have R9 := Lib.hid (R8.out.down hb9); have B9 := R9.out.bB; clear hb9
    (try dsimp only)
    (try simp only [Act.put, List.setIfInBounds_toArray, List.set_cons_zero, List.set_cons_succ])
    refine hK _ _ ?_
    clear hK K
    refine wpList_val (v := ?_) rfl ?_ ?_
    rotate_left
    · (go_simp; (try (first | with_reducible rfl | (constructor <;> with_reducible rfl))))
    (try simp only [Act.put, List.setIfInBounds_toArray, List.set_cons_zero, List.set_cons_succ])
    refine wpList_val (v := ?_) rfl ?_ ?_
    rotate_left
    · (go_simp; (try (first | with_reducible rfl | (constructor <;> with_reducible rfl))))
    (try simp only [Act.put, List.setIfInBounds_toArray, List.set_cons_zero, List.set_cons_succ])
    first | (refine wpList_val (v := ?_) (by rfl) ?_ ?_; rotate_left; focus (refine Eq.trans (run_load_row 25 (.tmp 12) (by rfl) (bb) (by rfl) _ _ _ _ (B9) Try.underlying25 rfl (icov.trans (by rw [arrv_size]))) ?_; with_reducible rfl)) | refine wpList_skip (by rfl) ?_
    (try simp only [Act.put, List.setIfInBounds_toArray, List.set_cons_zero, List.set_cons_succ])
    refine wpList_step (fun K hK => ?_)
    go_simp
    (refine (good_any Fb _).mono ?_); rintro e w10 ⟨rfl, hb10⟩; (rw [L2.out]); have R10 := Lib.hid (R9.out.down hb10); clear hb10
    (try dsimp only)
    (try simp only [Act.put, List.setIfInBounds_toArray, List.set_cons_zero, List.set_cons_succ])
    refine hK _ _ ?_
    clear hK K
    first | (refine wpList_val (v := ?_) (by rfl) ?_ ?_; rotate_left; focus ((go_simp; (try (first | with_reducible rfl | (constructor <;> with_reducible rfl)))))) | refine wpList_skip (by rfl) ?_
    (try simp only [Act.put, List.setIfInBounds_toArray, List.set_cons_zero, List.set_cons_succ])
    refine wpList_val (v := ?_) rfl ?_ ?_
    rotate_left
    · (go_simp; (try (first | with_reducible rfl | (constructor <;> with_reducible rfl))))
    (try simp only [Act.put, List.setIfInBounds_toArray, List.set_cons_zero, List.set_cons_succ])
    refine wpList_val (v := ?_) rfl ?_ ?_
    rotate_left
    · (go_simp; (try (first | with_reducible rfl | (constructor <;> with_reducible rfl))))
    (try simp only [Act.put, List.setIfInBounds_toArray, List.set_cons_zero, List.set_cons_succ])
    first | (refine wpList_val (v := ?_) (by rfl) ?_ ?_; rotate_left; focus ((go_simp; (try (first | with_reducible rfl | (constructor <;> with_reducible rfl)))))) | refine wpList_skip (by rfl) ?_
    (try simp only [Act.put, List.setIfInBounds_toArray, List.set_cons_zero, List.set_cons_succ])
    first | (refine wpList_val (v := ?_) (by rfl) ?_ ?_; rotate_left; focus ((go_simp; (try (first | with_reducible rfl | (constructor <;> with_reducible rfl)))))) | refine wpList_skip (by rfl) ?_
    (try simp only [Act.put, List.setIfInBounds_toArray, List.set_cons_zero, List.set_cons_succ])
    first | (refine wpList_val (v := ?_) (by rfl) ?_ ?_; rotate_left; focus ((go_simp; (try simp only [h1]); (try with_reducible rfl)))) | refine wpList_skip (by rfl) ?_
    (try simp only [Act.put, List.setIfInBounds_toArray, List.set_cons_zero, List.set_cons_succ])
    first | (refine wpList_val (v := ?_) (by rfl) ?_ ?_; rotate_left; focus ((go_simp; (try (first | with_reducible rfl | (constructor <;> with_reducible rfl)))))) | refine wpList_skip (by rfl) ?_
    (try simp only [Act.put, List.setIfInBounds_toArray, List.set_cons_zero, List.set_cons_succ])
    first | (refine wpList_val (v := ?_) (by rfl) ?_ ?_; rotate_left; focus ((go_simp; (try (first | with_reducible rfl | (constructor <;> with_reducible rfl)))))) | refine wpList_skip (by rfl) ?_
    (try simp only [Act.put, List.setIfInBounds_toArray, List.set_cons_zero, List.set_cons_succ])
    first | (refine wpList_val (v := ?_) (by rfl) ?_ ?_; rotate_left; focus ((go_simp; (try simp only [h2]); (try with_reducible rfl)))) | refine wpList_skip (by rfl) ?_
    (try simp only [Act.put, List.setIfInBounds_toArray, List.set_cons_zero, List.set_cons_succ])
    first | (refine wpList_val (v := ?_) (by rfl) ?_ ?_; rotate_left; focus ((go_simp; (try (first | with_reducible rfl | (constructor <;> with_reducible rfl)))))) | refine wpList_skip (by rfl) ?_
    (try simp only [Act.put, List.setIfInBounds_toArray, List.set_cons_zero, List.set_cons_succ])
    refine wpList_val (v := ?_) rfl ?_ ?_
    rotate_left
    · (go_simp; (try (first | with_reducible rfl | (constructor <;> with_reducible rfl))))
    (try simp only [Act.put, List.setIfInBounds_toArray, List.set_cons_zero, List.set_cons_succ])
    refine wpList_val (v := ?_) rfl ?_ ?_
    rotate_left
    · (go_simp; (try (first | with_reducible rfl | (constructor <;> with_reducible rfl))))
    (try simp only [Act.put, List.setIfInBounds_toArray, List.set_cons_zero, List.set_cons_succ])
    first | (refine wpList_val (v := ?_) (by rfl) ?_ ?_; rotate_left; focus ((go_simp; (try (first | with_reducible rfl | (constructor <;> with_reducible rfl)))))) | refine wpList_skip (by rfl) ?_
    (try simp only [Act.put, List.setIfInBounds_toArray, List.set_cons_zero, List.set_cons_succ])
    first | (refine wpList_val (v := ?_) (by rfl) ?_ ?_; rotate_left; focus ((go_simp; (try simp only [e5]); (try with_reducible rfl)))) | refine wpList_skip (by rfl) ?_
    (try simp only [Act.put, List.setIfInBounds_toArray, List.set_cons_zero, List.set_cons_succ])
    refine wpList_val (v := ?_) rfl ?_ ?_
    rotate_left
    · (go_simp; (try (first | with_reducible rfl | (constructor <;> with_reducible rfl))))
    (try simp only [Act.put, List.setIfInBounds_toArray, List.set_cons_zero, List.set_cons_succ])
    refine wpList_val (v := ?_) rfl ?_ ?_
    rotate_left
    · (go_simp; (try (first | with_reducible rfl | (constructor <;> with_reducible rfl))))
    (try simp only [Act.put, List.setIfInBounds_toArray, List.set_cons_zero, List.set_cons_succ])
    first | (refine wpList_val (v := ?_) (by rfl) ?_ ?_; rotate_left; focus ((go_simp; (try (first | with_reducible rfl | (constructor <;> with_reducible rfl)))))) | refine wpList_skip (by rfl) ?_
    (try simp only [Act.put, List.setIfInBounds_toArray, List.set_cons_zero, List.set_cons_succ])
    first | (refine wpList_val (v := ?_) (by rfl) ?_ ?_; rotate_left; focus ((go_simp; (try simp only [e6]); (try with_reducible rfl)))) | refine wpList_skip (by rfl) ?_
    (try simp only [Act.put, List.setIfInBounds_toArray, List.set_cons_zero, List.set_cons_succ])
    refine wpList_val (v := ?_) rfl ?_ ?_
    rotate_left
    · (go_simp; (try (first | with_reducible rfl | (constructor <;> with_reducible rfl))))
    (try simp only [Act.put, List.setIfInBounds_toArray, List.set_cons_zero, List.set_cons_succ])
    refine wpList_nil ?_
  all_goals clear A8 B9 L1 L2
  all_goals
    go_wp2_with fail
    go_loopw [15] (fun i wr => ∃ k : Nat, k ≤ 24 ∧ i = .int .i64 k ∧ Hid (LnR bc bw ba bb Wq Fa Fb w wr)) (fun i _ => 24 - (intOf i).toNat)
    case atStart => exact ⟨0, by omega, rfl, R10⟩
    case round =>
      obtain ⟨k, hk, rfl, R⟩ := hrel
      by_cases hlt : k < 24
      · have d1 : decide ((k : Int) < 24) = true := by simp; omega
        have g1 := l3.out k hlt
        have g2 := l4.out k hlt
        obtain ⟨m0, m1, m2⟩ := ln_keep R.out hlt
        obtain ⟨AV, hAV⟩ : ∃ x, Fa (276 + k) = x := ⟨_, rfl⟩
        obtain ⟨BV, hBV⟩ : ∃ x, Fb (276 + k) = x := ⟨_, rfl⟩
        obtain ⟨QV, hQV⟩ : ∃ x, Wq (276 + k) = x := ⟨_, rfl⟩
        rw [hAV] at m0 g1 g2
        rw [hQV] at m1 g1
        rw [hBV] at m2 g2
        have q1 : decide (QV < AV) = false := by simp; omega
        have q2 : decide (AV < BV) = false := by simp; omega
        clear hAV hBV hQV g1 g2
        go_upto_region 12 with fail
        go_quiet (fail)
        (try clear hHeld)
        go_wp2_with fail
        go_roundw
        case rel => exact ⟨k + 1, by omega, by go_num, R.out.drews _⟩
        case measure => simp [intOf]; omega
      · have hk24 : k = 24 := by omega
        subst hk24
        go_wp2_with fail
        go_ret
        exact ⟨rfl, R.out.below⟩
end Go.Proofs.Ytkfapackpggagaa
