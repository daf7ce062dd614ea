/- Law 12's awake answers true. -/
import Derived.Test.YtglpbcionohipaaBlkL
import Derived.Test.YtglpbcionohipaaEq
namespace Go.Proofs.Ytglpbcionohipaa
open Go.RowKit
set_option maxRecDepth 100000
theorem slc_1 (wr : World) (x : Int) : Slc (wr.alloc (.cells #[.int .i64 x] 2)) (some ⟨wr.heap.size, 0, none⟩) 1 (fun _ => x) := by
  intro i hi
  obtain rfl : i = 0 := by omega
  exact ⟨_, _, rfl, by simp [go_sem]⟩
theorem slc_i1 (wr : World) (x : Int) : Slc (wr.alloc (.cells #[.int .i64 x] 3)) (some ⟨wr.heap.size, 0, none⟩) 1 (fun _ => x) := by
  intro i hi
  obtain rfl : i = 0 := by omega
  exact ⟨_, _, rfl, by simp [go_sem]⟩
theorem slc_2 (wr : World) : Slc (wr.alloc (.cells #[.int .i64 17592186044416, .int .i64 17592186044416] 2)) (some ⟨wr.heap.size, 0, none⟩) 2 bkL := by
  intro i hi
  obtain rfl | rfl : i = 0 ∨ i = 1 := by omega
  · exact ⟨_, _, rfl, by simp [go_sem, bkL]⟩
  · exact ⟨_, _, rfl, by simp [go_sem, bkL]⟩
structure BkS (bc b2 : Nat) (w wr : World) : Prop where
  below : Below w.heap.size w wr
  fl : Flg wr bc false
  pB : Blk wr b2 29 300 bk0
theorem BkS.down {bc b2 : Nat} {w wr w' : World} (s : BkS bc b2 w wr) (u : Below wr.heap.size wr w') : BkS bc b2 w w' := ⟨Below.after s.below u, s.fl.below u, s.pB.below u⟩
theorem BkS.alloc {bc b2 : Nat} {w wr : World} (s : BkS bc b2 w wr) (o : Obj) : BkS bc b2 w (wr.alloc o) := s.down ((Below.refl _ _).alloc (Nat.le_refl _) o)
theorem BkS.drew {bc b2 : Nat} {w wr : World} (s : BkS bc b2 w wr) : BkS bc b2 w wr.drew := ⟨s.below.drew, s.fl, s.pB⟩
theorem BkS.upd {bc b2 : Nat} {w wr w' : World} (s : BkS bc b2 w wr) (h1 : w.heap.size ≤ bc) (h2 : bc < b2) (u : Upd ⟨bc, 0, none⟩ false wr w') : BkS bc b2 w w' := ⟨own_upd s.below h1 u, s.fl.hit u, s.pB.upd u (by show b2 ≠ bc; omega)⟩
theorem zblk (w : World) : Blk (w.alloc (.cells Try.zeroCells29 29)) w.heap.size 29 300 (fun _ => 0) := by rw [zcov]; exact Blk.new _ _ _ _
set_option maxHeartbeats 4000000 in
theorem awake12_any (w : World) : Calls Try.prog 12 #[] w fun e w' => e = .returned (.bool true) ∧ Below w.heap.size w w' := by
  obtain ⟨r1, r2, r3, r4⟩ := bk_reset
  obtain ⟨g1, g2, g3, g4⟩ := bk_forget
  obtain ⟨k1, k2⟩ := bk_grow
  have RH : (false || orB (rtB 0 (fun _ => 5)) 1 || stepH bk0 (rtF 0 1) (rtQ 0 (fun _ => 5) 1)) = false := by rw [r3, r4]; rfl
  have FH : (false || orB (fgB bk1 (fun _ => 0)) 1 || stepH bk1 (fgF (fun _ => 0) 1) (fgQ bk1 (fun _ => 0) 1)) = false := by rw [g3, g4]; rfl
  have GH : (false || stepH bk0 oneF (gwQ 1 (fun _ => 7) 1)) = false := by rw [k2]; rfl
  have RH := Lib.hid RH
  have FH := Lib.hid FH
  have GH := Lib.hid GH
  have HN := Lib.hid (And.intro r1 (And.intro r2 (And.intro g1 (And.intro g2 k1))))
  clear r1 r2 r3 r4 g1 g2 g3 g4 k1 k2
  go_enter Try.func12, Try.ntmps12
  obtain ⟨W0, hW0⟩ : ∃ x, (w.alloc (.cells #[.bool false] 25)).alloc (.cells #[.int .i64 17592186044416, .int .i64 17592186044416] 2) = x := ⟨_, rfl⟩
  have F0 : Flg W0 w.heap.size false := by rw [← hW0]; exact (Flg.new w false).alloc _
  have B0 : Below w.heap.size w W0 := by rw [← hW0]; exact ((Below.refl _ _).alloc (Nat.le_refl _) _).alloc (by simp) _
  have L0 : Slc W0 (some ⟨w.heap.size + 1, 0, none⟩) 2 bkL := by
    rw [← hW0]
    have := slc_2 (w.alloc (.cells #[.bool false] 25))
    simpa using this
  have N0 := Lib.hid (new_any _ false _ _ 2 bkL W0 F0.cell F0.free L0)
  go_upto_region 3 with (first | (go_at_call 7; (refine N0.out.mono ?_); rintro e w1 ⟨rfl, hu1⟩; (rw [newH_bk] at hu1); replace hu1 : Upd ⟨w.heap.size, 0, none⟩ false W0 w1 := hu1; have F1 := Lib.hid (F0.hit hu1); have B1 := Lib.hid (own_upd B0 (Nat.le_refl _) hu1); have R1 := zblk w1; clear hu1) | (refine wpList_store_row rfl 29 _ _ rfl (w1.heap.size) _ rfl rfl 29 _ (R1) (icov.trans (by rw [arrv_size])) (by rw [arrv_size, arrv_size]) (oneCell_arrv _ _) ?_))
  obtain ⟨w2, hw2⟩ : ∃ x, x = ((w1.alloc (.cells Try.zeroCells29 29)).setRow w1.heap.size (arrv 300 (newF 2 bkL))) := ⟨_, rfl⟩
  rw [← hw2]
  obtain ⟨M2, MB⟩ := Blk.made zcov (newF 2 bkL) hw2
  obtain ⟨b2, hb2⟩ : ∃ x, w1.heap.size = x := ⟨_, rfl⟩
  have hbc : w.heap.size < b2 := by rw [← hb2]; exact F1.out.lt
  have S2 : BkS w.heap.size b2 w w2 := ⟨Below.after B1.out MB, F1.out.below MB, by rw [← hb2]; exact M2⟩
  rw [hb2]
  have P2 := S2.pB
  have HS2 := Lib.hid S2
  clear hw2 hb2 R1 M2 MB F1 B1 F0 B0 L0 N0 hW0 S2
  go_upto_region 4 with (first | (refine wpList_load_row rfl 29 _ rfl (b2) rfl 29 _ (0, 0) _ (P2) Try.underlying29 rfl (icov.trans (by rw [arrv_size])) ?_) | (go_at_call 13; have S3 := HS2.out.alloc (.cells #[.int .i64 5] 2); (refine (reset_any ⟨w.heap.size, 0, none⟩ false bk0 0 _ 1 1 (fun _ => 5) _ S3.fl.cell S3.fl.free (slc_1 w2 5) (by omega) (by omega)).mono ?_); (rw [RH.out]); rintro e w3 ⟨rfl, hu3⟩; have S4 := Lib.hid (S3.upd (Nat.le_refl _) hbc hu3); have R3 := zblk w3; clear hu3 S3) | (refine wpList_store_row rfl 29 _ _ rfl (w3.heap.size) _ rfl rfl 29 _ (R3) (icov.trans (by rw [arrv_size])) (by rw [arrv_size, arrv_size]) (oneCell_arrv _ _) ?_))
  obtain ⟨w4, hw4⟩ : ∃ x, x = ((w3.alloc (.cells Try.zeroCells29 29)).setRow w3.heap.size (arrv 300 (stepF bk0 (rtF 0 1) (rtQ 0 (fun _ => 5) 1)))) := ⟨_, rfl⟩
  rw [← hw4]
  obtain ⟨M4, MB4⟩ := Blk.made zcov (stepF bk0 (rtF 0 1) (rtQ 0 (fun _ => 5) 1)) hw4
  obtain ⟨b3, hb3⟩ : ∃ x, w3.heap.size = x := ⟨_, rfl⟩
  have hb3c : w.heap.size < b3 := by rw [← hb3]; exact S4.out.fl.lt
  rw [hb3] at M4 ⊢
  have S5 := S4.out.down MB4
  have A5 : Hid (Blk w4 b3 29 300 bkF5) := Lib.hid M4
  have P5 := S5.pB
  have HS5 := Lib.hid S5
  clear hw4 hb3 R3 M4 MB4 S4 S5 P2 HS2
  go_upto_region 5 with (first | (refine wpList_load_row rfl 29 _ rfl (b2) rfl 29 _ (0, 0) _ (P5) Try.underlying29 rfl (icov.trans (by rw [arrv_size])) ?_) | (go_at_call 23; (refine (set_any bk0 0 1 1073741824 w4 (by omega) (by omega)).mono ?_); rintro e w5 ⟨rfl, hb5⟩; have S6 := Lib.hid (HS5.out.down hb5); have A6 := Lib.hid (A5.out.below hb5); clear hb5) | (go_at_call 14; have S7 := S6.out.alloc (.cells #[.int .i64 0] 3); (refine (forget_any ⟨w.heap.size, 0, none⟩ false bk1 _ 1 1 (fun _ => 0) _ S7.fl.cell S7.fl.free (slc_i1 w5 0) (by omega)).mono ?_); (rw [FH.out]); rintro e w6 ⟨rfl, hu6⟩; have S8 := Lib.hid (S7.upd (Nat.le_refl _) hbc hu6); have A8 := Lib.hid ((A6.out.alloc _).upd hu6 (by show b3 ≠ w.heap.size; omega)); have R6 := zblk w6; clear hu6 S7) | (refine wpList_store_row rfl 29 _ _ rfl (w6.heap.size) _ rfl rfl 29 _ (R6) (icov.trans (by rw [arrv_size])) (by rw [arrv_size, arrv_size]) (oneCell_arrv _ _) ?_))
  obtain ⟨w7, hw7⟩ : ∃ x, x = ((w6.alloc (.cells Try.zeroCells29 29)).setRow w6.heap.size (arrv 300 (stepF bk1 (fgF (fun _ => 0) 1) (fgQ bk1 (fun _ => 0) 1)))) := ⟨_, rfl⟩
  rw [← hw7]
  obtain ⟨M7, MB7⟩ := Blk.made zcov (stepF bk1 (fgF (fun _ => 0) 1) (fgQ bk1 (fun _ => 0) 1)) hw7
  obtain ⟨b4, hb4⟩ : ∃ x, w6.heap.size = x := ⟨_, rfl⟩
  have hb4c : w.heap.size < b4 := by rw [← hb4]; exact S8.out.fl.lt
  rw [hb4] at M7 ⊢
  have S9 := S8.out.down MB7
  have A9 := Lib.hid (A8.out.below MB7)
  have D9 : Hid (Blk w7 b4 29 300 bkF0) := Lib.hid M7
  have P9 := S9.pB
  have HS9 := Lib.hid S9
  clear hw7 hb4 R6 M7 MB7 S6 S8 S9 P5 HS5 A5 A6 A8
  go_upto_region 6 with (first | (refine wpList_load_row rfl 29 _ rfl (b2) rfl 29 _ (0, 0) _ (P9) Try.underlying29 rfl (icov.trans (by rw [arrv_size])) ?_) | (go_at_call 15; have S10 := HS9.out.alloc (.cells #[.int .i64 7] 2); (refine (grow_any ⟨w.heap.size, 0, none⟩ false bk0 1 _ 1 1 (fun _ => 7) _ S10.fl.cell S10.fl.free (slc_1 w7 7) (by omega) (by omega)).mono ?_); (rw [GH.out]); rintro e w8 ⟨rfl, hu8⟩; have S11 := Lib.hid (S10.upd (Nat.le_refl _) hbc hu8); have A11 := Lib.hid ((A9.out.alloc _).upd hu8 (by show b3 ≠ w.heap.size; omega)); have D11 := Lib.hid ((D9.out.alloc _).upd hu8 (by show b4 ≠ w.heap.size; omega)); have R8 := zblk w8; clear hu8 S10) | (refine wpList_store_row rfl 29 _ _ rfl (w8.heap.size) _ rfl rfl 29 _ (R8) (icov.trans (by rw [arrv_size])) (by rw [arrv_size, arrv_size]) (oneCell_arrv _ _) ?_))
  obtain ⟨w9, hw9⟩ : ∃ x, x = ((w8.alloc (.cells Try.zeroCells29 29)).setRow w8.heap.size (arrv 300 (stepF bk0 oneF (gwQ 1 (fun _ => 7) 1)))) := ⟨_, rfl⟩
  rw [← hw9]
  obtain ⟨M9, MB9⟩ := Blk.made zcov (stepF bk0 oneF (gwQ 1 (fun _ => 7) 1)) hw9
  obtain ⟨b5, hb5⟩ : ∃ x, w8.heap.size = x := ⟨_, rfl⟩
  rw [hb5] at M9 ⊢
  have S12 := Lib.hid (S11.out.down MB9)
  have A12 := A11.out.below MB9
  have D12 := D11.out.below MB9
  have E12 : Blk w9 b5 29 300 bkF7 := M9
  have c0 := A12.cell (i := 276) (by omega)
  have c1 := A12.cell (i := 277) (by omega)
  have c2 := D12.cell (i := 276) (by omega)
  have c3 := E12.cell (i := 277) (by omega)
  rw [HN.out.1] at c0
  rw [HN.out.2.1] at c1
  rw [HN.out.2.2.1] at c2
  rw [HN.out.2.2.2.2] at c3
  have HE12 := Lib.hid E12
  clear hw9 hb5 R8 M9 MB9 S11 A9 D9 A11 D11 P9 HS9 E12 A12
  refine wp_region_lit ?_
  refine wpList_val (v := ?_) rfl ?_ ?_
  rotate_left
  · (go_simp; (try (first | with_reducible rfl | (constructor <;> with_reducible rfl))))
  (try simp only [Act.put, List.setIfInBounds_toArray, List.set_cons_zero, List.set_cons_succ])
  refine wpList_val (v := ?_) rfl ?_ ?_
  rotate_left
  · (go_simp; (try (first | with_reducible rfl | (constructor <;> with_reducible rfl))))
  (try simp only [Act.put, List.setIfInBounds_toArray, List.set_cons_zero, List.set_cons_succ])
  refine wpList_val (v := ?_) rfl ?_ ?_
  rotate_left
  · (go_simp; (try (first | with_reducible rfl | (constructor <;> with_reducible rfl))))
  (try simp only [Act.put, List.setIfInBounds_toArray, List.set_cons_zero, List.set_cons_succ])
  refine wpList_val (v := ?_) rfl ?_ ?_
  rotate_left
  · (go_simp; (try (first | with_reducible rfl | (constructor <;> with_reducible rfl))))
  (try simp only [Act.put, List.setIfInBounds_toArray, List.set_cons_zero, List.set_cons_succ])
  refine wpList_val (v := ?_) rfl ?_ ?_
  rotate_left
  · (go_simp; (try (first | with_reducible rfl | (constructor <;> with_reducible rfl))))
  (try simp only [Act.put, List.setIfInBounds_toArray, List.set_cons_zero, List.set_cons_succ])
  first | (refine wpList_val (v := ?_) (by rfl) ?_ ?_; rotate_left; focus ((go_simp; (try (first | with_reducible rfl | (constructor <;> with_reducible rfl)))))) | refine wpList_skip (by rfl) ?_
  (try simp only [Act.put, List.setIfInBounds_toArray, List.set_cons_zero, List.set_cons_succ])
  first | (refine wpList_val (v := ?_) (by rfl) ?_ ?_; rotate_left; focus ((go_simp; (try (first | with_reducible rfl | (constructor <;> with_reducible rfl)))))) | refine wpList_skip (by rfl) ?_
  (try simp only [Act.put, List.setIfInBounds_toArray, List.set_cons_zero, List.set_cons_succ])
  first | (refine wpList_val (v := ?_) (by rfl) ?_ ?_; rotate_left; focus ((go_simp; (try (first | with_reducible rfl | (constructor <;> with_reducible rfl)))))) | refine wpList_skip (by rfl) ?_
  (try simp only [Act.put, List.setIfInBounds_toArray, List.set_cons_zero, List.set_cons_succ])
  first | (refine wpList_val (v := ?_) (by rfl) ?_ ?_; rotate_left; focus ((go_simp; (try (first | with_reducible rfl | (constructor <;> with_reducible rfl)))))) | refine wpList_skip (by rfl) ?_
  (try simp only [Act.put, List.setIfInBounds_toArray, List.set_cons_zero, List.set_cons_succ])
  refine wpList_val (v := ?_) rfl ?_ ?_
  rotate_left
  · (go_simp; (try (first | with_reducible rfl | (constructor <;> with_reducible rfl))))
  (try simp only [Act.put, List.setIfInBounds_toArray, List.set_cons_zero, List.set_cons_succ])
  refine wpList_val (v := ?_) rfl ?_ ?_
  rotate_left
  · (go_simp; (try (first | with_reducible rfl | (constructor <;> with_reducible rfl))))
  (try simp only [Act.put, List.setIfInBounds_toArray, List.set_cons_zero, List.set_cons_succ])
  first | (refine wpList_val (v := ?_) (by rfl) ?_ ?_; rotate_left; focus ((go_simp; (try (first | with_reducible rfl | (constructor <;> with_reducible rfl)))))) | refine wpList_skip (by rfl) ?_
  (try simp only [Act.put, List.setIfInBounds_toArray, List.set_cons_zero, List.set_cons_succ])
  first | (refine wpList_val (v := ?_) (by rfl) ?_ ?_; rotate_left; focus ((go_simp; (try (first | with_reducible rfl | (constructor <;> with_reducible rfl)))))) | refine wpList_skip (by rfl) ?_
  (try simp only [Act.put, List.setIfInBounds_toArray, List.set_cons_zero, List.set_cons_succ])
  first | (refine wpList_val (v := ?_) (by rfl) ?_ ?_; rotate_left; focus ((go_simp; (try (first | with_reducible rfl | (constructor <;> with_reducible rfl)))))) | refine wpList_skip (by rfl) ?_
  (try simp only [Act.put, List.setIfInBounds_toArray, List.set_cons_zero, List.set_cons_succ])
  first | (refine wpList_val (v := ?_) (by rfl) ?_ ?_; rotate_left; focus ((go_simp; (try (first | with_reducible rfl | (constructor <;> with_reducible rfl)))))) | refine wpList_skip (by rfl) ?_
  (try simp only [Act.put, List.setIfInBounds_toArray, List.set_cons_zero, List.set_cons_succ])
  refine wpList_val (v := ?_) rfl ?_ ?_
  rotate_left
  · (go_simp; (try (first | with_reducible rfl | (constructor <;> with_reducible rfl))))
  (try simp only [Act.put, List.setIfInBounds_toArray, List.set_cons_zero, List.set_cons_succ])
  refine wpList_val (v := ?_) rfl ?_ ?_
  rotate_left
  · (go_simp; (try (first | with_reducible rfl | (constructor <;> with_reducible rfl))))
  (try simp only [Act.put, List.setIfInBounds_toArray, List.set_cons_zero, List.set_cons_succ])
  first | (refine wpList_val (v := ?_) (by rfl) ?_ ?_; rotate_left; focus (refine Eq.trans (run_load_row 29 (.tmp 4) (by rfl) (b4) (by rfl) _ _ _ _ (D12) Try.underlying29 rfl (icov.trans (by rw [arrv_size]))) ?_; with_reducible rfl)) | refine wpList_skip (by rfl) ?_
  (try simp only [Act.put, List.setIfInBounds_toArray, List.set_cons_zero, List.set_cons_succ])
  refine wpList_step (fun K hK => ?_)
  go_simp
  (refine (u_any bkF0 0 1 w9 (by omega) (by omega)).mono ?_); rintro e w10 ⟨rfl, hb10⟩; (rw [HN.out.2.2.2.1]); have S13 := Lib.hid (S12.out.down hb10); have c3 := (HE12.out.below hb10).cell (i := 277) (by omega); (rw [HN.out.2.2.2.2] at c3); have c4 := S13.out.fl.cell; clear hb10
  (try dsimp only)
  (try simp only [Act.put, List.setIfInBounds_toArray, List.set_cons_zero, List.set_cons_succ])
  refine hK _ _ ?_
  clear hK K
  first | (refine wpList_val (v := ?_) (by rfl) ?_ ?_; rotate_left; focus ((go_simp; (try (first | with_reducible rfl | (constructor <;> with_reducible rfl)))))) | refine wpList_skip (by rfl) ?_
  (try simp only [Act.put, List.setIfInBounds_toArray, List.set_cons_zero, List.set_cons_succ])
  refine wpList_val (v := ?_) rfl ?_ ?_
  rotate_left
  · (go_simp; (try (first | with_reducible rfl | (constructor <;> with_reducible rfl))))
  (try simp only [Act.put, List.setIfInBounds_toArray, List.set_cons_zero, List.set_cons_succ])
  refine wpList_val (v := ?_) rfl ?_ ?_
  rotate_left
  · (go_simp; (try (first | with_reducible rfl | (constructor <;> with_reducible rfl))))
  (try simp only [Act.put, List.setIfInBounds_toArray, List.set_cons_zero, List.set_cons_succ])
  first | (refine wpList_val (v := ?_) (by rfl) ?_ ?_; rotate_left; focus ((go_simp; (try (first | with_reducible rfl | (constructor <;> with_reducible rfl)))))) | refine wpList_skip (by rfl) ?_
  (try simp only [Act.put, List.setIfInBounds_toArray, List.set_cons_zero, List.set_cons_succ])
  first | (refine wpList_val (v := ?_) (by rfl) ?_ ?_; rotate_left; focus ((go_simp; (try (first | with_reducible rfl | (constructor <;> with_reducible rfl)))))) | refine wpList_skip (by rfl) ?_
  (try simp only [Act.put, List.setIfInBounds_toArray, List.set_cons_zero, List.set_cons_succ])
  first | (refine wpList_val (v := ?_) (by rfl) ?_ ?_; rotate_left; focus ((go_simp; (try (first | with_reducible rfl | (constructor <;> with_reducible rfl)))))) | refine wpList_skip (by rfl) ?_
  (try simp only [Act.put, List.setIfInBounds_toArray, List.set_cons_zero, List.set_cons_succ])
  first | (refine wpList_val (v := ?_) (by rfl) ?_ ?_; rotate_left; focus ((go_simp; (try (first | with_reducible rfl | (constructor <;> with_reducible rfl)))))) | refine wpList_skip (by rfl) ?_
  (try simp only [Act.put, List.setIfInBounds_toArray, List.set_cons_zero, List.set_cons_succ])
  refine wpList_val (v := ?_) rfl ?_ ?_
  rotate_left
  · (go_simp; (try (first | with_reducible rfl | (constructor <;> with_reducible rfl))))
  (try simp only [Act.put, List.setIfInBounds_toArray, List.set_cons_zero, List.set_cons_succ])
  refine wpList_val (v := ?_) rfl ?_ ?_
  rotate_left
  · (go_simp; (try (first | with_reducible rfl | (constructor <;> with_reducible rfl))))
  (try simp only [Act.put, List.setIfInBounds_toArray, List.set_cons_zero, List.set_cons_succ])
  first | (refine wpList_val (v := ?_) (by rfl) ?_ ?_; rotate_left; focus ((go_simp; (try (first | with_reducible rfl | (constructor <;> with_reducible rfl)))))) | refine wpList_skip (by rfl) ?_
  (try simp only [Act.put, List.setIfInBounds_toArray, List.set_cons_zero, List.set_cons_succ])
  first | (refine wpList_val (v := ?_) (by rfl) ?_ ?_; rotate_left; focus ((go_simp; (try (first | with_reducible rfl | (constructor <;> with_reducible rfl)))))) | refine wpList_skip (by rfl) ?_
  (try simp only [Act.put, List.setIfInBounds_toArray, List.set_cons_zero, List.set_cons_succ])
  first | (refine wpList_val (v := ?_) (by rfl) ?_ ?_; rotate_left; focus ((go_simp; (try (first | with_reducible rfl | (constructor <;> with_reducible rfl)))))) | refine wpList_skip (by rfl) ?_
  (try simp only [Act.put, List.setIfInBounds_toArray, List.set_cons_zero, List.set_cons_succ])
  first | (refine wpList_val (v := ?_) (by rfl) ?_ ?_; rotate_left; focus ((go_simp; (try (first | with_reducible rfl | (constructor <;> with_reducible rfl)))))) | refine wpList_skip (by rfl) ?_
  (try simp only [Act.put, List.setIfInBounds_toArray, List.set_cons_zero, List.set_cons_succ])
  first | (refine wpList_val (v := ?_) (by rfl) ?_ ?_; rotate_left; focus ((go_simp; (try (first | with_reducible rfl | (constructor <;> with_reducible rfl)))))) | refine wpList_skip (by rfl) ?_
  (try simp only [Act.put, List.setIfInBounds_toArray, List.set_cons_zero, List.set_cons_succ])
  refine wpList_val (v := ?_) rfl ?_ ?_
  rotate_left
  · (go_simp; (try (first | with_reducible rfl | (constructor <;> with_reducible rfl))))
  (try simp only [Act.put, List.setIfInBounds_toArray, List.set_cons_zero, List.set_cons_succ])
  refine wpList_val (v := ?_) rfl ?_ ?_
  rotate_left
  · (go_simp; (try (first | with_reducible rfl | (constructor <;> with_reducible rfl))))
  (try simp only [Act.put, List.setIfInBounds_toArray, List.set_cons_zero, List.set_cons_succ])
  refine wpList_nil ?_
  go_wp2_with fail
  go_ret
  exact ⟨rfl, S13.out.below⟩
end Go.Proofs.Ytglpbcionohipaa
