/- The walk of BiermanNothing. -/
import Derived.Test.YtkfapackpggagaaAwk11
import Derived.Test.YtkfapackpggagaaEqR
namespace Go.Proofs.Ytkfapackpggagaa
open Go.RowKit
set_option maxRecDepth 100000
theorem varV_in {r : Int} (h1 : 1 ≤ r) (h2 : r ≤ 72057594037927936) : varV r = r := by
  unfold varV clampV; rw [if_neg (by omega), if_neg (by omega), if_neg (by omega)]
set_option maxHeartbeats 4000000 in
theorem nothing_walk (p : Nat → Int) (r : Int) (w : World) :
    Calls Try.prog 3 #[.agg (arrv 300 p), .int .i64 r] w fun e w' => e = .returned (.bool true) ∧ Below w.heap.size w w' := by
  go_enter Try.func3, Try.ntmps3
  obtain ⟨W0, hW0⟩ : ∃ x, w.alloc (.cells (arrv 300 p) 25) = x := ⟨_, rfl⟩
  have P0 : Blk W0 w.heap.size 25 300 p := by rw [← hW0]; exact Blk.new w _ _ _
  have B0 : Below w.heap.size w W0 := by rw [← hW0]; exact (Below.refl _ _).alloc (Nat.le_refl _) _
  go_upto_region 3 with (go_at_call 8; (refine (awake_any _).mono ?_); rintro e w1 ⟨rfl, hb1⟩; have P1 := Lib.hid (P0.below hb1); have B1 := Lib.hid (Below.after B0 hb1); clear hb1)
  obtain ⟨bc, hbc⟩ : ∃ x, w1.heap.size = x := ⟨_, rfl⟩
  have hbp : w.heap.size < bc := by rw [← hbc]; exact P1.out.lt
  have F2 : Flg (w1.alloc (.cells #[.bool false] 29)) bc false := by rw [← hbc]; exact Flg.new w1 false
  have P2 := P1.out.alloc (.cells #[.bool false] 29)
  have B2 := Lib.hid (B1.out.alloc B1.out.size (.cells #[.bool false] 29))
  clear P0 B0 P1 B1 hW0
  go_upto_region 4 with fail
  (try rw [hbc])
  generalize w1.alloc (.cells #[.bool false] 29) = W2 at *
  clear hbc
  have C2 := Lib.hid (cond_any ⟨bc, 0, none⟩ false p W2 F2.cell F2.free)
  go_upto_region 5 with (first | (refine wpList_load_row rfl 25 _ rfl w.heap.size rfl 25 _ (0, 0) _ P2 Try.underlying25 rfl (icov.trans (by rw [arrv_size])) ?_) | (go_at_call 9; (refine C2.out.mono ?_); rintro e w3 ⟨rfl, hu3⟩; have F3 := Lib.hid (F2.hit hu3); have P3 := Lib.hid (P2.upd hu3 (by show w.heap.size ≠ bc; omega)); have B3 := Lib.hid (own_upd B2.out (by show w.heap.size ≤ bc; omega) hu3); have R3 : Blk (w3.alloc (.cells Try.zeroCells25 25)) w3.heap.size 25 300 (fun _ => 0) := (by rw [zcov]; exact Blk.new _ _ _ _); clear hu3) | (refine wpList_store_row rfl 25 _ _ rfl w3.heap.size _ rfl rfl 25 _ R3 (icov.trans (by rw [arrv_size])) (by rw [arrv_size, arrv_size]) (oneCell_arrv _ _) ?_))
  obtain ⟨w4, hw4⟩ : ∃ x, x = ((w3.alloc (.cells Try.zeroCells25 25)).setRow w3.heap.size (arrv 300 (condF p))) := ⟨_, rfl⟩
  rw [← hw4]
  obtain ⟨M4, MB4⟩ := Blk.made zcov (condF p) hw4
  have F4 := F3.out.below MB4
  have P4 := P3.out.below MB4
  have B4 := Lib.hid (Below.after B3.out MB4)
  have hb4 : bc < w3.heap.size := F3.out.lt
  obtain ⟨bw, hbw⟩ : ∃ x, w3.heap.size = x := ⟨_, rfl⟩
  rw [hbw] at M4 hb4 ⊢
  clear hw4 R3 F2 P2 B2 C2 F3 P3 B3 MB4 hbw
  obtain ⟨v1, v2, v3⟩ := upd_nothing p r
  obtain ⟨SV, hSV⟩ : ∃ x, varV r = x := ⟨_, rfl⟩
  obtain ⟨Fq, hFq⟩ : ∃ x, updP p (fun _ => 0) r = x := ⟨_, rfl⟩
  obtain ⟨Gq, hGq⟩ : ∃ x, updG p (fun _ => 0) r = x := ⟨_, rfl⟩
  obtain ⟨Wq, hWq⟩ : ∃ x, condF p = x := ⟨_, rfl⟩
  have U4 := update_any ⟨bc, 0, none⟩ _ p (fun _ => 0) r w4 F4.cell F4.free
  rw [v3, hFq, hGq, hSV] at U4
  have U4 := Lib.hid U4
  rw [hFq, hWq] at v1
  rw [hGq] at v2
  rw [hWq] at M4 ⊢
  have hcov := covB_iff.2 v1
  have hrow := (eqB_iff (n := 24) (f := Gq) (g := fun _ => 0)).2 fun i _ => v2 i
  have HS := Lib.hid hSV
  rw [hSV] at v3
  have V3 := Lib.hid v3
  have HE := Lib.hid (And.intro hcov hrow)
  clear hcov hrow v1 v2 v3 hFq hGq hWq hSV
  go_upto_region 6 with (first | (refine wpList_load_row rfl 25 _ rfl (w.heap.size) rfl 25 _ (0, 0) _ (P4) Try.underlying25 rfl (icov.trans (by rw [arrv_size])) ?_) | (go_at_call 10; (rw [zrow]); (refine U4.out.mono ?_); rintro e w5 ⟨rfl, hu5⟩; have F5 := Lib.hid (F4.hit hu5); have P5 := Lib.hid (P4.upd hu5 (by show w.heap.size ≠ bc; omega)); have M5 := Lib.hid (M4.upd hu5 (by show bw ≠ bc; omega)); have B5 := Lib.hid (own_upd B4.out (by show w.heap.size ≤ bc; omega) hu5); (have RA : Blk ((w5.alloc (.cells Try.zeroCells25 25)).alloc (.cells #[.int .i64 0, .int .i64 0, .int .i64 0, .int .i64 0, .int .i64 0, .int .i64 0, .int .i64 0, .int .i64 0, .int .i64 0, .int .i64 0, .int .i64 0, .int .i64 0, .int .i64 0, .int .i64 0, .int .i64 0, .int .i64 0, .int .i64 0, .int .i64 0, .int .i64 0, .int .i64 0, .int .i64 0, .int .i64 0, .int .i64 0, .int .i64 0] 31)) w5.heap.size 25 300 (fun _ => 0) := (by rw [zcov]; exact (Blk.new _ _ _ _).alloc _); have RB : Blk (((w5.alloc (.cells Try.zeroCells25 25)).alloc (.cells #[.int .i64 0, .int .i64 0, .int .i64 0, .int .i64 0, .int .i64 0, .int .i64 0, .int .i64 0, .int .i64 0, .int .i64 0, .int .i64 0, .int .i64 0, .int .i64 0, .int .i64 0, .int .i64 0, .int .i64 0, .int .i64 0, .int .i64 0, .int .i64 0, .int .i64 0, .int .i64 0, .int .i64 0, .int .i64 0, .int .i64 0, .int .i64 0] 31)).setRow w5.heap.size (arrv 300 (Fq))) (w5.heap.size + 1) 31 24 (fun _ => 0) := (by rw [zrow]; exact (Blk.new1 _ _ _ _ _).setRow_other _ (by omega))); clear hu5) | (refine wpList_store_row rfl 25 _ _ rfl (w5.heap.size) _ rfl rfl 25 _ (RA) (icov.trans (by rw [arrv_size])) (by rw [arrv_size, arrv_size]) (oneCell_arrv _ _) ?_) | (refine wpList_store_row rfl 31 _ _ rfl (w5.heap.size + 1) _ rfl rfl 31 _ (RB) (irow.trans (by rw [arrv_size])) (by rw [arrv_size, arrv_size]) (oneCell_arrv _ _) ?_))
  obtain ⟨w6, hw6⟩ : ∃ x, x = ((((w5.alloc (.cells Try.zeroCells25 25)).alloc (.cells #[.int .i64 0, .int .i64 0, .int .i64 0, .int .i64 0, .int .i64 0, .int .i64 0, .int .i64 0, .int .i64 0, .int .i64 0, .int .i64 0, .int .i64 0, .int .i64 0, .int .i64 0, .int .i64 0, .int .i64 0, .int .i64 0, .int .i64 0, .int .i64 0, .int .i64 0, .int .i64 0, .int .i64 0, .int .i64 0, .int .i64 0, .int .i64 0] 31)).setRow w5.heap.size (arrv 300 (Fq))).setRow (w5.heap.size + 1) (arrv 24 (Gq))) := ⟨_, rfl⟩; rw [← hw6]; obtain ⟨N0, N1, NB⟩ := two_made _ _ hw6; clear hw6
  have F6 := Lib.hid (F5.out.below NB)
  have P6 := Lib.hid (P5.out.below NB)
  have M6 := Lib.hid (M5.out.below NB)
  have B6 := Lib.hid (Below.after B5.out NB)
  have N6 := Lib.hid N0
  have N7 := Lib.hid N1
  obtain ⟨ba, hba⟩ : ∃ x, w5.heap.size = x := ⟨_, rfl⟩
  rw [hba] at N6 N7 ⊢
  clear hba RA RB U4 F4 P4 M4 B4 F5 P5 M5 B5 N0 N1 NB
  have L2 := P6.out
  have L6 := M6.out
  have L7 := N6.out
  have L8 := N7.out
  have hEq := Lib.hid HE.out.1
  have hEr := Lib.hid HE.out.2
  have I6 := innov_any ⟨bc, 0, none⟩ _ p (fun _ => 0) r w6 F6.out.cell F6.out.free
  rw [V3.out] at I6
  have I6 := Lib.hid I6
  have hS : 1 ≤ r → r ≤ 72057594037927936 → SV = r := fun h1 h2 => by rw [← HS.out]; exact varV_in h1 h2
  have hS := Lib.hid hS
  have hc : (¬ 1 ≤ r) ∨ (1 ≤ r ∧ ¬ r ≤ 72057594037927936) ∨ (SV = r ∧ 1 ≤ r ∧ r ≤ 72057594037927936) := by
    by_cases h1 : 1 ≤ r
    · by_cases h2 : r ≤ 72057594037927936
      · exact .inr (.inr ⟨hS.out h1 h2, h1, h2⟩)
      · exact .inr (.inl ⟨h1, h2⟩)
    · exact .inl h1
  rcases hc with h1 | ⟨h1, h2⟩ | ⟨rfl, h1, h2⟩
  all_goals go_upto_region 8 with fail
  all_goals
    refine wp_region_lit ?_
    refine wpList_val (v := ?_) rfl ?_ ?_
    rotate_left
    · refine Eq.trans (run_load_row 25 (.tmp 7) (by rfl) (ba) (by rfl) _ _ _ _ (L7) Try.underlying25 rfl (icov.trans (by rw [arrv_size]))) ?_; with_reducible rfl
    (try simp only [Act.put, List.setIfInBounds_toArray, List.set_cons_zero, List.set_cons_succ])
    refine wpList_val (v := ?_) rfl ?_ ?_
    rotate_left
    · refine Eq.trans (run_load_row 25 (.tmp 6) (by rfl) (bw) (by rfl) _ _ _ _ (L6) Try.underlying25 rfl (icov.trans (by rw [arrv_size]))) ?_; with_reducible rfl
    (try simp only [Act.put, List.setIfInBounds_toArray, List.set_cons_zero, List.set_cons_succ])
    refine wpList_val (v := ?_) rfl ?_ ?_
    rotate_left
    · refine Eq.trans (run_op_eqlCov (.tmp 37) (.tmp 38) (by rfl) (by rfl) (by rfl) hEq.out) ?_; with_reducible rfl
    (try simp only [Act.put, List.setIfInBounds_toArray, List.set_cons_zero, List.set_cons_succ])
    refine wpList_val (v := ?_) rfl ?_ ?_
    rotate_left
    · (go_simp; (try (first | with_reducible rfl | (constructor <;> with_reducible rfl))))
    (try simp only [Act.put, List.setIfInBounds_toArray, List.set_cons_zero, List.set_cons_succ])
    first | (refine wpList_val (v := ?_) (by rfl) ?_ ?_; rotate_left; focus (refine Eq.trans (run_load_row 31 (.tmp 8) (by rfl) (ba + 1) (by rfl) _ _ _ _ (L8) Try.underlying31 rfl (irow.trans (by rw [arrv_size]))) ?_; with_reducible rfl)) | refine wpList_skip (by rfl) ?_
    (try simp only [Act.put, List.setIfInBounds_toArray, List.set_cons_zero, List.set_cons_succ])
    first | (refine wpList_val (v := ?_) (by rfl) ?_ ?_; rotate_left; focus ((go_simp; rw [zrow]))) | refine wpList_skip (by rfl) ?_
    (try simp only [Act.put, List.setIfInBounds_toArray, List.set_cons_zero, List.set_cons_succ])
    first | (refine wpList_val (v := ?_) (by rfl) ?_ ?_; rotate_left; focus (refine Eq.trans (run_op_eqlRow (.tmp 41) (.tmp 42) (by rfl) (by rfl) (by rfl) hEr.out) ?_; with_reducible rfl)) | refine wpList_skip (by rfl) ?_
    (try simp only [Act.put, List.setIfInBounds_toArray, List.set_cons_zero, List.set_cons_succ])
    refine wpList_val (v := ?_) rfl ?_ ?_
    rotate_left
    · (go_simp; (try (first | with_reducible rfl | (constructor <;> with_reducible rfl))))
    (try simp only [Act.put, List.setIfInBounds_toArray, List.set_cons_zero, List.set_cons_succ])
    refine wpList_val (v := ?_) rfl ?_ ?_
    rotate_left
    · (go_simp; (try (first | with_reducible rfl | (constructor <;> with_reducible rfl))))
    (try simp only [Act.put, List.setIfInBounds_toArray, List.set_cons_zero, List.set_cons_succ])
    first | (refine wpList_val (v := ?_) (by rfl) ?_ ?_; rotate_left; focus ((go_simp; (try (first | with_reducible rfl | (constructor <;> with_reducible rfl)))))) | refine wpList_skip (by rfl) ?_
    (try simp only [Act.put, List.setIfInBounds_toArray, List.set_cons_zero, List.set_cons_succ])
    first | (refine wpList_val (v := ?_) (by rfl) ?_ ?_; rotate_left; focus (refine Eq.trans (run_load_row 25 (.tmp 2) (by rfl) (w.heap.size) (by rfl) _ _ _ _ (L2) Try.underlying25 rfl (icov.trans (by rw [arrv_size]))) ?_; with_reducible rfl)) | refine wpList_skip (by rfl) ?_
    (try simp only [Act.put, List.setIfInBounds_toArray, List.set_cons_zero, List.set_cons_succ])
    first | (refine wpList_val (v := ?_) (by rfl) ?_ ?_; rotate_left; focus ((go_simp; rw [zrow]))) | refine wpList_skip (by rfl) ?_
    (try simp only [Act.put, List.setIfInBounds_toArray, List.set_cons_zero, List.set_cons_succ])
    first | (refine wpList_val (v := ?_) (by rfl) ?_ ?_; rotate_left; focus ((go_simp; (try (first | with_reducible rfl | (constructor <;> with_reducible rfl)))))) | refine wpList_skip (by rfl) ?_
    (try simp only [Act.put, List.setIfInBounds_toArray, List.set_cons_zero, List.set_cons_succ])
    refine wpList_step (fun K hK => ?_)
    go_simp
    (refine I6.out.mono ?_); rintro e w7 ⟨rfl, hu7⟩; have B7 := Lib.hid (own_upd B6.out (by show w.heap.size ≤ bc; omega) hu7); clear hu7
    (try dsimp only)
    (try simp only [Act.put, List.setIfInBounds_toArray, List.set_cons_zero, List.set_cons_succ])
    refine hK _ _ ?_
    clear hK K
    first | (refine wpList_val (v := ?_) (by rfl) ?_ ?_; rotate_left; focus ((go_simp; (try (first | with_reducible rfl | (constructor <;> with_reducible rfl)))))) | refine wpList_skip (by rfl) ?_
    (try simp only [Act.put, List.setIfInBounds_toArray, List.set_cons_zero, List.set_cons_succ])
    first | (refine wpList_val (v := ?_) (by rfl) ?_ ?_; rotate_left; focus ((go_simp; (try (first | with_reducible rfl | (constructor <;> with_reducible rfl)))))) | refine wpList_skip (by rfl) ?_
    (try simp only [Act.put, List.setIfInBounds_toArray, List.set_cons_zero, List.set_cons_succ])
    refine wpList_val (v := ?_) rfl ?_ ?_
    rotate_left
    · (go_simp; (try (first | with_reducible rfl | (constructor <;> with_reducible rfl))))
    (try simp only [Act.put, List.setIfInBounds_toArray, List.set_cons_zero, List.set_cons_succ])
    refine wpList_val (v := ?_) rfl ?_ ?_
    rotate_left
    · (go_simp; (try (first | with_reducible rfl | (constructor <;> with_reducible rfl))))
    (try simp only [Act.put, List.setIfInBounds_toArray, List.set_cons_zero, List.set_cons_succ])
    refine wpList_nil ?_
    go_wp2_with fail
    go_ret
    exact ⟨rfl, B7.out⟩
end Go.Proofs.Ytkfapackpggagaa
