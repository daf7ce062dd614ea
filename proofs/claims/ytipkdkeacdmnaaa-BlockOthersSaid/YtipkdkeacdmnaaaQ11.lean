/- Contracts of the program's functions and plain laws, part 11: they hold for all arguments. -/
import Derived.Test.YtipkdkeacdmnaaaQ10
import Derived.Test.YtipkdkeacdmnaaaQ09
import Derived.Test.YtipkdkeacdmnaaaQ04
import Derived.Test.YtipkdkeacdmnaaaQ05
import Derived.OpenShut
import Derived.ProofKit
import Derived.Test.YtipkdkeacdmnaaaQ07
import Derived.Carry
/- Law 12's awake answers true. -/
namespace Go.Proofs.Ytipkdkeacdmnaaa
open Go.RowKit
set_option maxRecDepth 100000
theorem slc_1 (wr : World) (x : Int) : Slc (wr.alloc (.cells #[.int .i64 x] 2)) (some ⟨wr.heap.size, 0, none⟩) 1 (fun _ => x) := by
  intro i hi
  obtain rfl : i = 0 := by omega
  exact ⟨_, _, rfl, by simp [go_sem]⟩
theorem slc_i1 (wr : World) (x : Int) : Slc (wr.alloc (.cells #[.int .i64 x] 3)) (some ⟨wr.heap.size, 0, none⟩) 1 (fun _ => x) := by
  intro i hi
  obtain rfl : i = 0 := by omega
  exact ⟨_, _, rfl, by simp [go_sem]⟩
theorem slc_2 (wr : World) : Slc (wr.alloc (.cells #[.int .i64 17592186044416, .int .i64 17592186044416] 2)) (some ⟨wr.heap.size, 0, none⟩) 2 bkL := by
  intro i hi
  obtain rfl | rfl : i = 0 ∨ i = 1 := by omega
  · exact ⟨_, _, rfl, by simp [go_sem, bkL]⟩
  · exact ⟨_, _, rfl, by simp [go_sem, bkL]⟩
structure BkS (bc b2 : Nat) (w wr : World) : Prop where
  below : Below w.heap.size w wr
  fl : Flg wr bc false
  pB : Blk wr b2 25 300 bk0
theorem BkS.down {bc b2 : Nat} {w wr w' : World} (s : BkS bc b2 w wr) (u : Below wr.heap.size wr w') : BkS bc b2 w w' := ⟨Below.after s.below u, s.fl.below u, s.pB.below u⟩
theorem BkS.alloc {bc b2 : Nat} {w wr : World} (s : BkS bc b2 w wr) (o : Obj) : BkS bc b2 w (wr.alloc o) := s.down ((Below.refl _ _).alloc (Nat.le_refl _) o)
theorem BkS.drew {bc b2 : Nat} {w wr : World} (s : BkS bc b2 w wr) : BkS bc b2 w wr.drew := ⟨s.below.drew, s.fl, s.pB⟩
theorem BkS.upd {bc b2 : Nat} {w wr w' : World} (s : BkS bc b2 w wr) (h1 : w.heap.size ≤ bc) (h2 : bc < b2) (u : Upd ⟨bc, 0, none⟩ false wr w') : BkS bc b2 w w' := ⟨own_upd s.below h1 u, s.fl.hit u, s.pB.upd u (by show b2 ≠ bc; omega)⟩
theorem zblk (w : World) : Blk (w.alloc (.cells Try.zeroCells25 25)) w.heap.size 25 300 (fun _ => 0) := by rw [zcov]; exact Blk.new _ _ _ _
set_option maxHeartbeats 4000000 in
theorem awake12_any (w : World) : Calls Try.prog 14 #[] w fun e w' => e = .returned (.bool true) ∧ Below w.heap.size w w' := by
  obtain ⟨r1, r2, r3, r4⟩ := bk_reset
  obtain ⟨g1, g2, g3, g4⟩ := bk_forget
  obtain ⟨k1, k2⟩ := bk_grow
  have RH : (false || orB (rtB 0 (fun _ => 5)) 1 || stepH bk0 (rtF 0 1) (rtQ 0 (fun _ => 5) 1)) = false := by rw [r3, r4]; rfl
  have FH : (false || orB (fgB bk1 (fun _ => 0)) 1 || stepH bk1 (fgF (fun _ => 0) 1) (fgQ bk1 (fun _ => 0) 1)) = false := by rw [g3, g4]; rfl
  have GH : (false || stepH bk0 oneF (gwQ 1 (fun _ => 7) 1)) = false := by rw [k2]; rfl
  have RH := Lib.hid RH
  have FH := Lib.hid FH
  have GH := Lib.hid GH
  have HN := Lib.hid (And.intro r1 (And.intro r2 (And.intro g1 (And.intro g2 k1))))
  clear r1 r2 r3 r4 g1 g2 g3 g4 k1 k2
  go_enter Try.func14, Try.ntmps14
  obtain ⟨W0, hW0⟩ : ∃ x, (w.alloc (.cells #[.bool false] 32)).alloc (.cells #[.int .i64 17592186044416, .int .i64 17592186044416] 2) = x := ⟨_, rfl⟩
  have F0 : Flg W0 w.heap.size false := by rw [← hW0]; exact (Flg.new w false).alloc _
  have B0 : Below w.heap.size w W0 := by rw [← hW0]; exact ((Below.refl _ _).alloc (Nat.le_refl _) _).alloc (by simp) _
  have L0 : Slc W0 (some ⟨w.heap.size + 1, 0, none⟩) 2 bkL := by
    rw [← hW0]
    have := slc_2 (w.alloc (.cells #[.bool false] 32))
    simpa using this
  have N0 := Lib.hid (new_any _ false _ _ 2 bkL W0 F0.cell F0.free L0)
  go_upto_region 3 with (first | (go_at_call 20; (refine N0.out.mono ?_); rintro e w1 ⟨rfl, hu1⟩; (rw [newH_bk] at hu1); replace hu1 : Upd ⟨w.heap.size, 0, none⟩ false W0 w1 := hu1; have F1 := Lib.hid (F0.hit hu1); have B1 := Lib.hid (own_upd B0 (Nat.le_refl _) hu1); have R1 := zblk w1; clear hu1) | (refine wpList_store_row rfl 25 _ _ rfl (w1.heap.size) _ rfl rfl 25 _ (R1) (icov.trans (by rw [arrv_size])) (by rw [arrv_size, arrv_size]) (oneCell_arrv _ _) ?_))
  obtain ⟨w2, hw2⟩ : ∃ x, x = ((w1.alloc (.cells Try.zeroCells25 25)).setRow w1.heap.size (arrv 300 (newF 2 bkL))) := ⟨_, rfl⟩
  rw [← hw2]
  obtain ⟨M2, MB⟩ := Blk.made zcov (newF 2 bkL) hw2
  obtain ⟨b2, hb2⟩ : ∃ x, w1.heap.size = x := ⟨_, rfl⟩
  have hbc : w.heap.size < b2 := by rw [← hb2]; exact F1.out.lt
  have S2 : BkS w.heap.size b2 w w2 := ⟨Below.after B1.out MB, F1.out.below MB, by rw [← hb2]; exact M2⟩
  rw [hb2]
  have P2 := S2.pB
  have HS2 := Lib.hid S2
  clear hw2 hb2 R1 M2 MB F1 B1 F0 B0 L0 N0 hW0 S2
  go_upto_region 4 with (first | (refine wpList_load_row rfl 25 _ rfl (b2) rfl 25 _ (0, 0) _ (P2) Try.underlying25 rfl (icov.trans (by rw [arrv_size])) ?_) | (go_at_call 16; have S3 := HS2.out.alloc (.cells #[.int .i64 5] 2); (refine (reset_any ⟨w.heap.size, 0, none⟩ false bk0 0 _ 1 1 (fun _ => 5) _ S3.fl.cell S3.fl.free (slc_1 w2 5) (by omega) (by omega)).mono ?_); (rw [RH.out]); rintro e w3 ⟨rfl, hu3⟩; have S4 := Lib.hid (S3.upd (Nat.le_refl _) hbc hu3); have R3 := zblk w3; clear hu3 S3) | (refine wpList_store_row rfl 25 _ _ rfl (w3.heap.size) _ rfl rfl 25 _ (R3) (icov.trans (by rw [arrv_size])) (by rw [arrv_size, arrv_size]) (oneCell_arrv _ _) ?_))
  obtain ⟨w4, hw4⟩ : ∃ x, x = ((w3.alloc (.cells Try.zeroCells25 25)).setRow w3.heap.size (arrv 300 (stepF bk0 (rtF 0 1) (rtQ 0 (fun _ => 5) 1)))) := ⟨_, rfl⟩
  rw [← hw4]
  obtain ⟨M4, MB4⟩ := Blk.made zcov (stepF bk0 (rtF 0 1) (rtQ 0 (fun _ => 5) 1)) hw4
  obtain ⟨b3, hb3⟩ : ∃ x, w3.heap.size = x := ⟨_, rfl⟩
  have hb3c : w.heap.size < b3 := by rw [← hb3]; exact S4.out.fl.lt
  rw [hb3] at M4 ⊢
  have S5 := S4.out.down MB4
  have A5 : Hid (Blk w4 b3 25 300 bkF5) := Lib.hid M4
  have P5 := S5.pB
  have HS5 := Lib.hid S5
  clear hw4 hb3 R3 M4 MB4 S4 S5 P2 HS2
  go_upto_region 5 with (first | (refine wpList_load_row rfl 25 _ rfl (b2) rfl 25 _ (0, 0) _ (P5) Try.underlying25 rfl (icov.trans (by rw [arrv_size])) ?_) | (go_at_call 27; (refine (set_any bk0 0 1 1073741824 w4 (by omega) (by omega)).mono ?_); rintro e w5 ⟨rfl, hb5⟩; have S6 := Lib.hid (HS5.out.down hb5); have A6 := Lib.hid (A5.out.below hb5); clear hb5) | (go_at_call 17; have S7 := S6.out.alloc (.cells #[.int .i64 0] 3); (refine (forget_any ⟨w.heap.size, 0, none⟩ false bk1 _ 1 1 (fun _ => 0) _ S7.fl.cell S7.fl.free (slc_i1 w5 0) (by omega)).mono ?_); (rw [FH.out]); rintro e w6 ⟨rfl, hu6⟩; have S8 := Lib.hid (S7.upd (Nat.le_refl _) hbc hu6); have A8 := Lib.hid ((A6.out.alloc _).upd hu6 (by show b3 ≠ w.heap.size; omega)); have R6 := zblk w6; clear hu6 S7) | (refine wpList_store_row rfl 25 _ _ rfl (w6.heap.size) _ rfl rfl 25 _ (R6) (icov.trans (by rw [arrv_size])) (by rw [arrv_size, arrv_size]) (oneCell_arrv _ _) ?_))
  obtain ⟨w7, hw7⟩ : ∃ x, x = ((w6.alloc (.cells Try.zeroCells25 25)).setRow w6.heap.size (arrv 300 (stepF bk1 (fgF (fun _ => 0) 1) (fgQ bk1 (fun _ => 0) 1)))) := ⟨_, rfl⟩
  rw [← hw7]
  obtain ⟨M7, MB7⟩ := Blk.made zcov (stepF bk1 (fgF (fun _ => 0) 1) (fgQ bk1 (fun _ => 0) 1)) hw7
  obtain ⟨b4, hb4⟩ : ∃ x, w6.heap.size = x := ⟨_, rfl⟩
  have hb4c : w.heap.size < b4 := by rw [← hb4]; exact S8.out.fl.lt
  rw [hb4] at M7 ⊢
  have S9 := S8.out.down MB7
  have A9 := Lib.hid (A8.out.below MB7)
  have D9 : Hid (Blk w7 b4 25 300 bkF0) := Lib.hid M7
  have P9 := S9.pB
  have HS9 := Lib.hid S9
  clear hw7 hb4 R6 M7 MB7 S6 S8 S9 P5 HS5 A5 A6 A8
  go_upto_region 6 with (first | (refine wpList_load_row rfl 25 _ rfl (b2) rfl 25 _ (0, 0) _ (P9) Try.underlying25 rfl (icov.trans (by rw [arrv_size])) ?_) | (go_at_call 18; have S10 := HS9.out.alloc (.cells #[.int .i64 7] 2); (refine (grow_any ⟨w.heap.size, 0, none⟩ false bk0 1 _ 1 1 (fun _ => 7) _ S10.fl.cell S10.fl.free (slc_1 w7 7) (by omega) (by omega)).mono ?_); (rw [GH.out]); rintro e w8 ⟨rfl, hu8⟩; have S11 := Lib.hid (S10.upd (Nat.le_refl _) hbc hu8); have A11 := Lib.hid ((A9.out.alloc _).upd hu8 (by show b3 ≠ w.heap.size; omega)); have D11 := Lib.hid ((D9.out.alloc _).upd hu8 (by show b4 ≠ w.heap.size; omega)); have R8 := zblk w8; clear hu8 S10) | (refine wpList_store_row rfl 25 _ _ rfl (w8.heap.size) _ rfl rfl 25 _ (R8) (icov.trans (by rw [arrv_size])) (by rw [arrv_size, arrv_size]) (oneCell_arrv _ _) ?_))
  obtain ⟨w9, hw9⟩ : ∃ x, x = ((w8.alloc (.cells Try.zeroCells25 25)).setRow w8.heap.size (arrv 300 (stepF bk0 oneF (gwQ 1 (fun _ => 7) 1)))) := ⟨_, rfl⟩
  rw [← hw9]
  obtain ⟨M9, MB9⟩ := Blk.made zcov (stepF bk0 oneF (gwQ 1 (fun _ => 7) 1)) hw9
  obtain ⟨b5, hb5⟩ : ∃ x, w8.heap.size = x := ⟨_, rfl⟩
  rw [hb5] at M9 ⊢
  have S12 := Lib.hid (S11.out.down MB9)
  have A12 := A11.out.below MB9
  have D12 := D11.out.below MB9
  have E12 : Blk w9 b5 25 300 bkF7 := M9
  have c0 := A12.cell (i := 276) (by omega)
  have c1 := A12.cell (i := 277) (by omega)
  have c2 := D12.cell (i := 276) (by omega)
  have c3 := E12.cell (i := 277) (by omega)
  rw [HN.out.1] at c0
  rw [HN.out.2.1] at c1
  rw [HN.out.2.2.1] at c2
  rw [HN.out.2.2.2.2] at c3
  have HE12 := Lib.hid E12
  clear hw9 hb5 R8 M9 MB9 S11 A9 D9 A11 D11 P9 HS9 E12 A12
  refine wp_region_lit ?_
  refine wpList_val (v := ?_) rfl ?_ ?_
  rotate_left
  · (go_simp; (try (first | with_reducible rfl | (constructor <;> with_reducible rfl))))
  (try simp only [Act.put, nA, nB, nC])
  refine wpList_val (v := ?_) rfl ?_ ?_
  rotate_left
  · (go_simp; (try (first | with_reducible rfl | (constructor <;> with_reducible rfl))))
  (try simp only [Act.put, nA, nB, nC])
  refine wpList_val (v := ?_) rfl ?_ ?_
  rotate_left
  · (go_simp; (try (first | with_reducible rfl | (constructor <;> with_reducible rfl))))
  (try simp only [Act.put, nA, nB, nC])
  refine wpList_val (v := ?_) rfl ?_ ?_
  rotate_left
  · (go_simp; (try (first | with_reducible rfl | (constructor <;> with_reducible rfl))))
  (try simp only [Act.put, nA, nB, nC])
  refine wpList_val (v := ?_) rfl ?_ ?_
  rotate_left
  · (go_simp; (try (first | with_reducible rfl | (constructor <;> with_reducible rfl))))
  (try simp only [Act.put, nA, nB, nC])
  first | (refine wpList_val (v := ?_) (by rfl) ?_ ?_; rotate_left; focus ((go_simp; (try (first | with_reducible rfl | (constructor <;> with_reducible rfl)))))) | refine wpList_skip (by rfl) ?_
  (try simp only [Act.put, nA, nB, nC])
  first | (refine wpList_val (v := ?_) (by rfl) ?_ ?_; rotate_left; focus ((go_simp; (try (first | with_reducible rfl | (constructor <;> with_reducible rfl)))))) | refine wpList_skip (by rfl) ?_
  (try simp only [Act.put, nA, nB, nC])
  first | (refine wpList_val (v := ?_) (by rfl) ?_ ?_; rotate_left; focus ((go_simp; (try (first | with_reducible rfl | (constructor <;> with_reducible rfl)))))) | refine wpList_skip (by rfl) ?_
  (try simp only [Act.put, nA, nB, nC])
  first | (refine wpList_val (v := ?_) (by rfl) ?_ ?_; rotate_left; focus ((go_simp; (try (first | with_reducible rfl | (constructor <;> with_reducible rfl)))))) | refine wpList_skip (by rfl) ?_
  (try simp only [Act.put, nA, nB, nC])
  refine wpList_val (v := ?_) rfl ?_ ?_
  rotate_left
  · (go_simp; (try (first | with_reducible rfl | (constructor <;> with_reducible rfl))))
  (try simp only [Act.put, nA, nB, nC])
  refine wpList_val (v := ?_) rfl ?_ ?_
  rotate_left
  · (go_simp; (try (first | with_reducible rfl | (constructor <;> with_reducible rfl))))
  (try simp only [Act.put, nA, nB, nC])
  first | (refine wpList_val (v := ?_) (by rfl) ?_ ?_; rotate_left; focus ((go_simp; (try (first | with_reducible rfl | (constructor <;> with_reducible rfl)))))) | refine wpList_skip (by rfl) ?_
  (try simp only [Act.put, nA, nB, nC])
  first | (refine wpList_val (v := ?_) (by rfl) ?_ ?_; rotate_left; focus ((go_simp; (try (first | with_reducible rfl | (constructor <;> with_reducible rfl)))))) | refine wpList_skip (by rfl) ?_
  (try simp only [Act.put, nA, nB, nC])
  first | (refine wpList_val (v := ?_) (by rfl) ?_ ?_; rotate_left; focus ((go_simp; (try (first | with_reducible rfl | (constructor <;> with_reducible rfl)))))) | refine wpList_skip (by rfl) ?_
  (try simp only [Act.put, nA, nB, nC])
  first | (refine wpList_val (v := ?_) (by rfl) ?_ ?_; rotate_left; focus ((go_simp; (try (first | with_reducible rfl | (constructor <;> with_reducible rfl)))))) | refine wpList_skip (by rfl) ?_
  (try simp only [Act.put, nA, nB, nC])
  refine wpList_val (v := ?_) rfl ?_ ?_
  rotate_left
  · (go_simp; (try (first | with_reducible rfl | (constructor <;> with_reducible rfl))))
  (try simp only [Act.put, nA, nB, nC])
  refine wpList_val (v := ?_) rfl ?_ ?_
  rotate_left
  · (go_simp; (try (first | with_reducible rfl | (constructor <;> with_reducible rfl))))
  (try simp only [Act.put, nA, nB, nC])
  first | (refine wpList_val (v := ?_) (by rfl) ?_ ?_; rotate_left; focus (refine Eq.trans (run_load_row 25 (.tmp 4) (by rfl) (b4) (by rfl) _ _ _ _ (D12) Try.underlying25 rfl (icov.trans (by rw [arrv_size]))) ?_; with_reducible rfl)) | refine wpList_skip (by rfl) ?_
  (try simp only [Act.put, nA, nB, nC])
  refine wpList_step (fun K hK => ?_)
  go_simp
  (refine (u_any bkF0 0 1 w9 (by omega) (by omega)).mono ?_); rintro e w10 ⟨rfl, hb10⟩; (rw [HN.out.2.2.2.1]); have S13 := Lib.hid (S12.out.down hb10); have c3 := (HE12.out.below hb10).cell (i := 277) (by omega); (rw [HN.out.2.2.2.2] at c3); have c4 := S13.out.fl.cell; clear hb10
  (try dsimp only)
  (try simp only [Act.put, nA, nB, nC])
  refine hK _ _ ?_
  clear hK K
  first | (refine wpList_val (v := ?_) (by rfl) ?_ ?_; rotate_left; focus ((go_simp; (try (first | with_reducible rfl | (constructor <;> with_reducible rfl)))))) | refine wpList_skip (by rfl) ?_
  (try simp only [Act.put, nA, nB, nC])
  refine wpList_val (v := ?_) rfl ?_ ?_
  rotate_left
  · (go_simp; (try (first | with_reducible rfl | (constructor <;> with_reducible rfl))))
  (try simp only [Act.put, nA, nB, nC])
  refine wpList_val (v := ?_) rfl ?_ ?_
  rotate_left
  · (go_simp; (try (first | with_reducible rfl | (constructor <;> with_reducible rfl))))
  (try simp only [Act.put, nA, nB, nC])
  first | (refine wpList_val (v := ?_) (by rfl) ?_ ?_; rotate_left; focus ((go_simp; (try (first | with_reducible rfl | (constructor <;> with_reducible rfl)))))) | refine wpList_skip (by rfl) ?_
  (try simp only [Act.put, nA, nB, nC])
  first | (refine wpList_val (v := ?_) (by rfl) ?_ ?_; rotate_left; focus ((go_simp; (try (first | with_reducible rfl | (constructor <;> with_reducible rfl)))))) | refine wpList_skip (by rfl) ?_
  (try simp only [Act.put, nA, nB, nC])
  first | (refine wpList_val (v := ?_) (by rfl) ?_ ?_; rotate_left; focus ((go_simp; (try (first | with_reducible rfl | (constructor <;> with_reducible rfl)))))) | refine wpList_skip (by rfl) ?_
  (try simp only [Act.put, nA, nB, nC])
  first | (refine wpList_val (v := ?_) (by rfl) ?_ ?_; rotate_left; focus ((go_simp; (try (first | with_reducible rfl | (constructor <;> with_reducible rfl)))))) | refine wpList_skip (by rfl) ?_
  (try simp only [Act.put, nA, nB, nC])
  refine wpList_val (v := ?_) rfl ?_ ?_
  rotate_left
  · (go_simp; (try (first | with_reducible rfl | (constructor <;> with_reducible rfl))))
  (try simp only [Act.put, nA, nB, nC])
  refine wpList_val (v := ?_) rfl ?_ ?_
  rotate_left
  · (go_simp; (try (first | with_reducible rfl | (constructor <;> with_reducible rfl))))
  (try simp only [Act.put, nA, nB, nC])
  first | (refine wpList_val (v := ?_) (by rfl) ?_ ?_; rotate_left; focus ((go_simp; (try (first | with_reducible rfl | (constructor <;> with_reducible rfl)))))) | refine wpList_skip (by rfl) ?_
  (try simp only [Act.put, nA, nB, nC])
  first | (refine wpList_val (v := ?_) (by rfl) ?_ ?_; rotate_left; focus ((go_simp; (try (first | with_reducible rfl | (constructor <;> with_reducible rfl)))))) | refine wpList_skip (by rfl) ?_
  (try simp only [Act.put, nA, nB, nC])
  first | (refine wpList_val (v := ?_) (by rfl) ?_ ?_; rotate_left; focus ((go_simp; (try (first | with_reducible rfl | (constructor <;> with_reducible rfl)))))) | refine wpList_skip (by rfl) ?_
  (try simp only [Act.put, nA, nB, nC])
  first | (refine wpList_val (v := ?_) (by rfl) ?_ ?_; rotate_left; focus ((go_simp; (try (first | with_reducible rfl | (constructor <;> with_reducible rfl)))))) | refine wpList_skip (by rfl) ?_
  (try simp only [Act.put, nA, nB, nC])
  first | (refine wpList_val (v := ?_) (by rfl) ?_ ?_; rotate_left; focus ((go_simp; (try (first | with_reducible rfl | (constructor <;> with_reducible rfl)))))) | refine wpList_skip (by rfl) ?_
  (try simp only [Act.put, nA, nB, nC])
  refine wpList_val (v := ?_) rfl ?_ ?_
  rotate_left
  · (go_simp; (try (first | with_reducible rfl | (constructor <;> with_reducible rfl))))
  (try simp only [Act.put, nA, nB, nC])
  refine wpList_val (v := ?_) rfl ?_ ?_
  rotate_left
  · (go_simp; (try (first | with_reducible rfl | (constructor <;> with_reducible rfl))))
  (try simp only [Act.put, nA, nB, nC])
  refine wpList_nil ?_
  go_wp2_with fail
  go_ret
  exact ⟨rfl, S13.out.below⟩
end Go.Proofs.Ytipkdkeacdmnaaa
/- A call's own blocks as a list: what holds of them all, whatever is called between. -/
namespace Go.Proofs.Ytipkdkeacdmnaaa
open Go.RowKit
theorem ls_row_other {w : World} {g : Nat} (cs : Array Value) {p : Addr} (h : p.block ≠ g) : (w.setRow g cs).cell? p = w.cell? p ∧ (w.setRow g cs).frozen? p = w.frozen? p := by
  have e := Go.setRow_other w g p.block cs h
  constructor
  · simp only [World.cell?, e]
  · simp only [World.frozen?, e]
/-- A block of numbers: where, of what type, how many, which. -/
structure Lx where
  b : Nat
  T : Nat
  n : Nat
  F : Nat → Int
/-- The flag at c is h; the blocks E lie from w's end to top. -/
structure LsR (c : Addr) (h : Bool) (E : List Lx) (top : Nat) (w wr : World) : Prop where
  upd : Upd c h w wr
  cell : wr.cell? c = some (.bool h)
  free : wr.frozen? c = false
  cb : c.block < w.heap.size
  ex : ∀ e, e ∈ E → Blk wr e.b e.T e.n e.F ∧ w.heap.size ≤ e.b ∧ e.b < top
  lim : w.heap.size ≤ top
  le : top ≤ wr.heap.size
section
variable {c : Addr} {h h' : Bool} {E : List Lx} {top : Nat} {w wr w' : World}
theorem LsR.upd' (s : LsR c h E top w wr) (u : Upd c h' wr w') : LsR c h' E top w w' := by
  have hcb := s.cb
  have hl := s.lim
  exact ⟨s.upd.trans u, u.cellc s.cell, (u.frozen (World.block_lt_of_cell? _ _ s.cell)).trans s.free, s.cb, fun e he => ⟨(s.ex e he).1.upd u (by have := (s.ex e he).2.1; omega), (s.ex e he).2⟩, s.lim, Nat.le_trans s.le u.size⟩
theorem LsR.low (s : LsR c h E top w wr) (u : Below top wr w') (hz : top ≤ w'.heap.size) : LsR c h E top w w' := by
  have hcb := s.cb
  have hl := s.lim
  exact ⟨s.upd.then' (u.mono (by omega)), (u.cell (by omega)).trans s.cell, (u.frozen (by omega)).trans s.free, s.cb, fun e he => ⟨(u.block _ (s.ex e he).2.2).trans (s.ex e he).1, (s.ex e he).2⟩, s.lim, hz⟩
theorem LsR.down (s : LsR c h E top w wr) (u : Below wr.heap.size wr w') : LsR c h E top w w' := s.low (u.mono s.le) (Nat.le_trans s.le u.size)
theorem LsR.drew (s : LsR c h E top w wr) : LsR c h E top w wr.drew := s.down (Below.drew (Below.refl _ _))
theorem LsR.alloc (s : LsR c h E top w wr) (o : Obj) : LsR c h E top w (wr.alloc o) := s.down ((Below.refl _ _).alloc (Nat.le_refl _) o)
/-- One more block, laid at the end. -/
theorem LsR.lay (s : LsR c h E top w wr) (T n : Nat) (F : Nat → Int) : LsR c h (⟨wr.heap.size, T, n, F⟩ :: E) (wr.heap.size + 1) w (wr.alloc (.cells (arrv n F) T)) := by
  have k := s.alloc (.cells (arrv n F) T)
  have hl := s.lim
  have hle := s.le
  refine ⟨k.upd, k.cell, k.free, k.cb, fun e he => ?_, by omega, by simp⟩
  rcases List.mem_cons.1 he with rfl | he
  · exact ⟨Blk.new _ _ _ _, by simp only; omega, by simp⟩
  · have := k.ex e he
    exact ⟨this.1, this.2.1, by omega⟩
/-- .. and filled. -/
theorem LsR.put (s : LsR c h E top w wr) (T n : Nat) (G F : Nat → Int) : LsR c h (⟨wr.heap.size, T, n, F⟩ :: E) (wr.heap.size + 1) w ((wr.alloc (.cells (arrv n G) T)).setRow wr.heap.size (arrv n F)) := by
  have hl := s.lim
  have hle := s.le
  have b : Below wr.heap.size wr ((wr.alloc (.cells (arrv n G) T)).setRow wr.heap.size (arrv n F)) := below_row ((Below.refl _ _).alloc (Nat.le_refl _) _) (Nat.le_refl _) _
  have k := s.down b
  refine ⟨k.upd, k.cell, k.free, k.cb, fun e he => ?_, by omega, by rw [setRow_size]; simp⟩
  rcases List.mem_cons.1 he with rfl | he
  · exact ⟨(Blk.new _ _ _ _).setRow F, by simp only; omega, by simp⟩
  · have := k.ex e he
    exact ⟨this.1, this.2.1, by omega⟩
theorem LsR.e0 {b T n : Nat} {F : Nat → Int} (s : LsR c h (⟨b, T, n, F⟩ :: E) top w wr) : Blk wr b T n F := (s.ex _ (.head _)).1
theorem LsR.tail {a : Lx} (s : LsR c h (a :: E) top w wr) : LsR c h E top w wr := ⟨s.upd, s.cell, s.free, s.cb, fun e he => s.ex e (.tail _ he), s.lim, s.le⟩
theorem LsR.e1 {a : Lx} {b T n : Nat} {F : Nat → Int} (s : LsR c h (a :: ⟨b, T, n, F⟩ :: E) top w wr) : Blk wr b T n F := s.tail.e0
theorem LsR.e2 {a a2 : Lx} {b T n : Nat} {F : Nat → Int} (s : LsR c h (a :: a2 :: ⟨b, T, n, F⟩ :: E) top w wr) : Blk wr b T n F := s.tail.e1
theorem LsR.e3 {a a2 a3 : Lx} {b T n : Nat} {F : Nat → Int} (s : LsR c h (a :: a2 :: a3 :: ⟨b, T, n, F⟩ :: E) top w wr) : Blk wr b T n F := s.tail.e2
theorem LsR.e4 {a a2 a3 a4 : Lx} {b T n : Nat} {F : Nat → Int} (s : LsR c h (a :: a2 :: a3 :: a4 :: ⟨b, T, n, F⟩ :: E) top w wr) : Blk wr b T n F := s.tail.e3
theorem LsR.e5 {a a2 a3 a4 a5 : Lx} {b T n : Nat} {F : Nat → Int} (s : LsR c h (a :: a2 :: a3 :: a4 :: a5 :: ⟨b, T, n, F⟩ :: E) top w wr) : Blk wr b T n F := s.tail.e4
theorem LsR.e6 {a a2 a3 a4 a5 a6 : Lx} {b T n : Nat} {F : Nat → Int} (s : LsR c h (a :: a2 :: a3 :: a4 :: a5 :: a6 :: ⟨b, T, n, F⟩ :: E) top w wr) : Blk wr b T n F := s.tail.e5
theorem LsR.e7 {a a2 a3 a4 a5 a6 a7 : Lx} {b T n : Nat} {F : Nat → Int} (s : LsR c h (a :: a2 :: a3 :: a4 :: a5 :: a6 :: a7 :: ⟨b, T, n, F⟩ :: E) top w wr) : Blk wr b T n F := s.tail.e6
/-- The first block's row stored. -/
theorem LsR.row {b T n : Nat} {F : Nat → Int} (s : LsR c h (⟨b, T, n, F⟩ :: E) top w wr) (hn : ∀ e, e ∈ E → e.b ≠ b) (G : Nat → Int) : LsR c h (⟨b, T, n, G⟩ :: E) top w (wr.setRow b (arrv n G)) := by
  have h0 := s.ex _ (.head _)
  have hcb := s.cb
  have hb : w.heap.size ≤ b := h0.2.1
  refine ⟨s.upd.then' (below_row (Below.refl _ _) hb _), by rw [(ls_row_other _ (by omega)).1]; exact s.cell, by rw [(ls_row_other _ (by omega)).2]; exact s.free, s.cb, fun e he => ?_, s.lim, by rw [setRow_size]; exact s.le⟩
  rcases List.mem_cons.1 he with rfl | he
  · exact ⟨h0.1.setRow G, h0.2⟩
  · have := s.ex e (.tail _ he)
    exact ⟨this.1.setRow_other _ (hn e he), this.2⟩
/-- The first block's cell stored. -/
theorem LsR.set {b T n : Nat} {F : Nat → Int} (s : LsR c h (⟨b, T, n, F⟩ :: E) top w wr) (hn : ∀ e, e ∈ E → e.b ≠ b) (i : Nat) (x : Int) : LsR c h (⟨b, T, n, Go.Proofs.Ytipkdkeacdmnaaa.upd F i x⟩ :: E) top w (wr.setCell ⟨b, i, none⟩ (.int .i64 x)) := by
  have h0 := s.ex _ (.head _)
  have hcb := s.cb
  have hb : w.heap.size ≤ b := h0.2.1
  have hne : (⟨b, i, none⟩ : Addr) ≠ c := fun e => by rw [← e] at hcb; simp only at hcb; omega
  refine ⟨s.upd.setCell hb _, (World.cell?_setCell_other _ _ _ _ hne).trans s.cell, (World.frozen?_setCell ..).trans s.free, s.cb, fun e he => ?_, s.lim, by rw [setCell_size]; exact s.le⟩
  rcases List.mem_cons.1 he with rfl | he
  · exact ⟨h0.1.set i x, h0.2⟩
  · have := s.ex e (.tail _ he)
    exact ⟨this.1.other (hn e he) _, this.2⟩
theorem LsR.congr {b T n : Nat} {F G : Nat → Int} (s : LsR c h (⟨b, T, n, F⟩ :: E) top w wr) (eh : h = h') (e : ∀ i, i < n → F i = G i) : LsR c h' (⟨b, T, n, G⟩ :: E) top w wr := by
  subst eh
  refine ⟨s.upd, s.cell, s.free, s.cb, fun x hx => ?_, s.lim, s.le⟩
  rcases List.mem_cons.1 hx with rfl | hx
  · exact ⟨s.e0.congr e, (s.ex _ (.head _)).2⟩
  · exact s.ex x (.tail _ hx)
theorem ls_nil (hc : w.cell? c = some (.bool h)) (hf : w.frozen? c = false) : LsR c h [] w.heap.size w w := ⟨Upd.refl hc, hc, hf, World.block_lt_of_cell? w c hc, (fun e he => by cases he), Nat.le_refl _, Nat.le_refl _⟩
end
end Go.Proofs.Ytipkdkeacdmnaaa
/- Contract of law 12's plain factors. -/
namespace Go.Proofs.Ytipkdkeacdmnaaa
open Go.RowKit
set_option maxRecDepth 100000
set_option maxHeartbeats 4000000 in
theorem plain12_any (P0 : Nat → Int) (w : World) : Calls Try.prog 15 #[.agg (arrv 300 P0)] w fun e w' => e = .returned (.agg (arrv 300 (clD P0 24))) ∧ Below w.heap.size w w' := by
  have S0 := Lib.hid (show Below w.heap.size w ((w.alloc (.cells (arrv 300 P0) 25)).alloc (.cells Try.zeroCells25 25)) ∧ Blk ((w.alloc (.cells (arrv 300 P0) 25)).alloc (.cells Try.zeroCells25 25)) w.heap.size 25 300 P0 ∧ Blk ((w.alloc (.cells (arrv 300 P0) 25)).alloc (.cells Try.zeroCells25 25)) (w.heap.size + 1) 25 300 (fun _ => 0) from
    ⟨by (repeat (first | with_reducible exact Below.refl _ _ | with_reducible apply Below.drew | (with_reducible refine below_drewN ?_ _) | (with_reducible refine Below.alloc ?_ (by (try simp) <;> omega) _) | (with_reducible refine Below.setCell ?_ (by (try simp) <;> omega) _))), (Blk.new w _ _ _).alloc _, by rw [zcov]; exact Blk.new1 w _ _ _ _⟩)
  go_enter Try.func15, Try.ntmps15
  go_upto_region 1 with fail
  generalize (w.alloc (.cells (arrv 300 P0) 25)).alloc (.cells Try.zeroCells25 25) = W0 at *
  go_wp2_with fail
  go_loopw [3] (fun v wr => ∃ m : Nat, m ≤ 276 ∧ v = .int .i64 m ∧ Hid (Below w.heap.size w wr ∧ Blk wr w.heap.size 25 300 (clU P0 m) ∧ Blk wr (w.heap.size + 1) 25 300 (fun _ => 0))) (fun v _ => 276 - (intOf v).toNat)
  case atStart => exact ⟨0, by omega, rfl, S0.out.1, S0.out.2.1.congr fun x _ => by simp [clU], S0.out.2.2⟩
  case round =>
    obtain ⟨m, hm, rfl, R⟩ := hrel
    clear S0
    by_cases hlt : m < 276
    · have d1 : decide ((m : Int) < 276) = true := by simp; omega
      have m0 : (0 : Int) ≤ (m : Int) := Int.natCast_nonneg _
      have m1 : (m : Int) < 276 := by omega
      have c0 := R.out.2.1.cell (i := m) (by omega)
      have c1 := R.out.2.1.free m
      go_wp2_with fail
      go_roundw
      case rel =>
        refine ⟨m + 1, by omega, by go_num, R.out.1.setCell (Nat.le_refl _) _, ?_, R.out.2.2.other (by simp) _⟩
        exact (R.out.2.1.set m ((clU P0 m m).tmod 268435456)).congr fun x _ => clU_next P0 m x
      case measure => simp [intOf]; omega
    · have hk6 : m = 276 := by omega
      subst hk6
      rw [show ((276 : Nat) : Int) = 276 from rfl]
      have R2 := Lib.hid (And.intro R.out.1 (And.intro (R.out.2.1.congr (clD_start P0)) R.out.2.2))
      clear R hlt hm
      go_wp2_with fail
      go_loopw [4] (fun v wr => ∃ m : Nat, m ≤ 24 ∧ v = .int .i64 m ∧ Hid (Below w.heap.size w wr ∧ Blk wr w.heap.size 25 300 (clD P0 m) ∧ Blk wr (w.heap.size + 1) 25 300 (fun _ => 0))) (fun v _ => 24 - (intOf v).toNat)
      case atStart => exact ⟨0, by omega, rfl, R2.out⟩
      case round =>
        obtain ⟨m, hm, rfl, R⟩ := hrel
        clear R2
        by_cases hlt : m < 24
        · have d1 : decide ((m : Int) < 24) = true := by simp; omega
          have m0 : (0 : Int) ≤ (m : Int) := Int.natCast_nonneg _
          have m1 : (m : Int) < 24 := by omega
          have c0 := R.out.2.1.cell (i := 276 + m) (by omega)
          have c1 := R.out.2.1.free (276 + m)
          have b1 := and43 (P0 (276 + m))
          rw [clD_at] at c0
          have w1' : IntKind.i64.wrap (17179869184 + Go.bits .and .i64 (P0 (276 + m)) 8796093022207) = 17179869184 + Go.bits .and .i64 (P0 (276 + m)) 8796093022207 := IntWalk.i64_in _ (by omega)
          go_wp2_with fail
          go_roundw
          case rel =>
            refine ⟨m + 1, by omega, by go_num, R.out.1.setCell (Nat.le_refl _) _, ?_, R.out.2.2.other (by simp) _⟩
            exact (R.out.2.1.set (276 + m) (17179869184 + Go.bits .and .i64 (P0 (276 + m)) 8796093022207)).congr fun x _ => clD_next P0 m x
          case measure => simp [intOf]; omega
        · have hm24 : m = 24 := by omega
          subst hm24
          rw [show ((24 : Nat) : Int) = 24 from rfl]
          have HB := Lib.hid R.out.1
          have Q2 := R.out.2.1
          have P2 := R.out.2.2
          clear R hlt hm
          obtain ⟨G, hG⟩ : ∃ x, clD P0 24 = x := ⟨_, rfl⟩
          rw [hG] at Q2
          have HG := Lib.hid hG
          clear hG
          go_upto_region 9 with fail
          refine wp_region_lit ?_
          refine wpList_val (v := ?_) rfl ?_ ?_
          rotate_left
          · (refine Eq.trans (run_load_row 25 (.tmp 1) (by rfl) (w.heap.size) (by rfl) _ _ _ _ Q2 Try.underlying25 rfl (icov.trans (by rw [arrv_size]))) ?_; with_reducible rfl)
          (try simp only [Act.put, nA, nB, nC])
          refine wpList_done (w' := ?_) rfl ?_ ?_
          rotate_left
          · (refine Eq.trans (run_store_row 25 (.tmp 2) (.tmp 30) (by rfl) (w.heap.size + 1) (by rfl) (by rfl) P2 (icov.trans rfl)) ?_; with_reducible rfl)
          (try simp only [Act.put, nA, nB, nC])
          refine wpList_nil ?_
          have r1 := P2.setRow G
          have U1 := below_row HB.out (show w.heap.size ≤ w.heap.size + 1 by omega) (arrv 300 G)
          generalize wr.setRow (w.heap.size + 1) (arrv 300 G) = W9 at *
          go_wp2_with fail
          refine bodyPost_ret (results_cell_row Try.results15 _ _ (w.heap.size + 1) 25 (arrv 300 G) (0, 0) _ rfl r1 Try.underlying25 rfl (icov.trans (by rw [arrv_size]))) rfl ⟨by rw [HG.out], U1⟩
end Go.Proofs.Ytipkdkeacdmnaaa
/- Contract of tri.Diag. -/
namespace Go.Proofs.Ytipkdkeacdmnaaa
open Go.RowKit
set_option maxRecDepth 100000
def dgF (f : Nat → Int) : Nat → Int := fun i => atV f i i
def dgB (f : Nat → Int) : Nat → Bool := fun i => atH f i i
set_option maxHeartbeats 4000000 in
theorem diag_any (c : Addr) (h : Bool) (f : Nat → Int) (w : World) (hc : w.cell? c = some (.bool h)) (hf : w.frozen? c = false) :
    Calls Try.prog 13 #[.pointer (some c), .agg (arrv 300 f)] w fun e w' => e = .returned (.agg (arrv 24 (dgF f))) ∧ Upd c (h || orB (dgB f) 24) w w' := by
  have L0 := Lib.hid (show LsR c h [⟨w.heap.size + 1 + 1, 23, 24, fun i => if i < 0 then dgF f i else 0⟩, ⟨w.heap.size + 1, 23, 24, fun _ => 0⟩, ⟨w.heap.size, 25, 300, f⟩] (w.heap.size + 1 + 1 + 1) w (((w.alloc (.cells (arrv 300 f) 25)).alloc (.cells #[.int .i64 0, .int .i64 0, .int .i64 0, .int .i64 0, .int .i64 0, .int .i64 0, .int .i64 0, .int .i64 0, .int .i64 0, .int .i64 0, .int .i64 0, .int .i64 0, .int .i64 0, .int .i64 0, .int .i64 0, .int .i64 0, .int .i64 0, .int .i64 0, .int .i64 0, .int .i64 0, .int .i64 0, .int .i64 0, .int .i64 0, .int .i64 0] 23)).alloc (.cells #[.int .i64 0, .int .i64 0, .int .i64 0, .int .i64 0, .int .i64 0, .int .i64 0, .int .i64 0, .int .i64 0, .int .i64 0, .int .i64 0, .int .i64 0, .int .i64 0, .int .i64 0, .int .i64 0, .int .i64 0, .int .i64 0, .int .i64 0, .int .i64 0, .int .i64 0, .int .i64 0, .int .i64 0, .int .i64 0, .int .i64 0, .int .i64 0] 23)) by
    rw [zcol]
    have := (((ls_nil hc hf).lay 25 300 f).lay 23 24 (fun _ => 0)).lay 23 24 (fun _ => 0)
    refine LsR.congr (F := fun _ => 0) ?_ rfl fun i _ => (if_neg (by omega)).symm
    simpa using this)
  have FN := Lib.hid (show ∀ e ∈ [(⟨w.heap.size + 1, 23, 24, fun _ => 0⟩ : Lx), ⟨w.heap.size, 25, 300, f⟩], e.b ≠ w.heap.size + 1 + 1 by simp; omega)
  clear hc hf
  go_enter Try.func13, Try.ntmps13
  go_upto_region 2 with fail
  generalize ((w.alloc (.cells (arrv 300 f) 25)).alloc (.cells #[.int .i64 0, .int .i64 0, .int .i64 0, .int .i64 0, .int .i64 0, .int .i64 0, .int .i64 0, .int .i64 0, .int .i64 0, .int .i64 0, .int .i64 0, .int .i64 0, .int .i64 0, .int .i64 0, .int .i64 0, .int .i64 0, .int .i64 0, .int .i64 0, .int .i64 0, .int .i64 0, .int .i64 0, .int .i64 0, .int .i64 0, .int .i64 0] 23)).alloc (.cells #[.int .i64 0, .int .i64 0, .int .i64 0, .int .i64 0, .int .i64 0, .int .i64 0, .int .i64 0, .int .i64 0, .int .i64 0, .int .i64 0, .int .i64 0, .int .i64 0, .int .i64 0, .int .i64 0, .int .i64 0, .int .i64 0, .int .i64 0, .int .i64 0, .int .i64 0, .int .i64 0, .int .i64 0, .int .i64 0, .int .i64 0, .int .i64 0] 23) = W0 at *
  go_wp2_with fail
  go_loopw [7] (fun v wr => ∃ k : Nat, k ≤ 24 ∧ v = .int .i64 k ∧ Hid (LsR c (h || orB (dgB f) k) [⟨w.heap.size + 1 + 1, 23, 24, fun i => if i < k then dgF f i else 0⟩, ⟨w.heap.size + 1, 23, 24, fun _ => 0⟩, ⟨w.heap.size, 25, 300, f⟩] (w.heap.size + 1 + 1 + 1) w wr)) (fun v _ => 24 - (intOf v).toNat)
  case atStart => exact ⟨0, by omega, rfl, by rw [show (h || orB (dgB f) 0) = h from by simp [orB]]; exact L0⟩
  case round =>
    obtain ⟨k, hk, rfl, R⟩ := hrel
    clear L0
    by_cases hlt : k < 24
    · have d1 : decide ((k : Int) < 24) = true := by simp; omega
      have k0 : (0 : Int) ≤ (k : Int) := Int.natCast_nonneg _
      have k1 : (k : Int) < 24 := by omega
      obtain ⟨G, hG⟩ : ∃ x : Nat → Int, (fun i => if i < k then dgF f i else 0) = x := ⟨_, rfl⟩
      obtain ⟨H, hH⟩ : ∃ x, (h || orB (dgB f) k) = x := ⟨_, rfl⟩
      rw [hG, hH] at R
      have AT := Lib.hid (at_any c H f k k wr R.out.cell R.out.free hlt hlt)
      obtain ⟨y, hy⟩ : ∃ y, atV f k k = y := ⟨_, rfl⟩
      rw [hy] at AT
      have HG := Lib.hid (And.intro hG (And.intro hH hy))
      clear hG hH hy
      have P5 := R.out.e2
      go_upto_region 5 with fail
      refine wp_region_lit ?_
      refine wpList_val (v := ?_) rfl ?_ ?_
      rotate_left
      · (go_simp; (try (first | with_reducible rfl | (constructor <;> with_reducible rfl))))
      (try simp only [Act.put, nA, nB, nC])
      refine wpList_val (v := ?_) rfl ?_ ?_
      rotate_left
      · (go_simp; (try (first | with_reducible rfl | (constructor <;> with_reducible rfl))))
      (try simp only [Act.put, nA, nB, nC])
      refine wpList_val (v := ?_) rfl ?_ ?_
      rotate_left
      · refine Eq.trans (run_load_row 25 (.tmp 3) (by rfl) (w.heap.size) (by rfl) _ _ _ _ (P5) Try.underlying25 rfl (icov.trans (by rw [arrv_size]))) ?_; with_reducible rfl
      (try simp only [Act.put, nA, nB, nC])
      refine wpList_val (v := ?_) rfl ?_ ?_
      rotate_left
      · (go_simp; (try (first | with_reducible rfl | (constructor <;> with_reducible rfl))))
      (try simp only [Act.put, nA, nB, nC])
      refine wpList_val (v := ?_) rfl ?_ ?_
      rotate_left
      · (go_simp; (try (first | with_reducible rfl | (constructor <;> with_reducible rfl))))
      (try simp only [Act.put, nA, nB, nC])
      refine wpList_step (fun K hK => ?_)
      go_simp
      (refine AT.out.mono ?_); rintro e w1 ⟨rfl, hu⟩; have S := Lib.hid (R.out.upd' hu); clear hu R AT P5; have xf := S.out.e0.free k; have xc := S.out.e0.cell (i := k) (by omega)
      (try dsimp only)
      (try simp only [Act.put, nA, nB, nC])
      refine hK _ _ ?_
      clear hK K
      refine wpList_val (v := ?_) rfl ?_ ?_
      rotate_left
      · (go_simp; (try (first | with_reducible rfl | (constructor <;> with_reducible rfl))))
      (try simp only [Act.put, nA, nB, nC])
      refine wpList_done (w' := ?_) rfl ?_ ?_
      rotate_left
      · (go_simp; (try (first | with_reducible rfl | (constructor <;> with_reducible rfl))))
      (try simp only [Act.put, nA, nB, nC])
      refine wpList_nil ?_
      go_wp2_with fail
      go_roundw
      case rel =>
        refine ⟨k + 1, by omega, by go_num, Lib.hid ((S.out.set FN.out k y).congr (G := fun i => if i < k + 1 then dgF f i else 0) ?_ fun i _ => ?_)⟩
        · rw [← HG.out.2.1]; simp [orB, dgB, Bool.or_assoc]
        · rw [← HG.out.1, ← HG.out.2.2]
          simp only [Go.Proofs.Ytipkdkeacdmnaaa.upd]
          by_cases h1 : i = k
          · rw [if_pos h1, if_pos (by omega), h1]; rfl
          · rw [if_neg h1]
            by_cases h2 : i < k
            · rw [if_pos h2, if_pos (by omega)]
            · rw [if_neg h2, if_neg (by omega)]
      case measure => simp [intOf]; omega
    · have hk24 : k = 24 := by omega
      subst hk24
      rw [show ((24 : Nat) : Int) = 24 from rfl]
      have R2 := Lib.hid (R.out.congr (G := dgF f) rfl fun i hi => if_pos hi)
      clear R hk hlt
      obtain ⟨G, hG⟩ : ∃ x, dgF f = x := ⟨_, rfl⟩
      rw [hG] at R2
      have HG := Lib.hid hG
      clear hG
      have O7 := R2.out.e0
      have P7 := R2.out.e1
      go_upto_region 7 with fail
      refine wp_region_lit ?_
      refine wpList_val (v := ?_) rfl ?_ ?_
      rotate_left
      · (refine Eq.trans (run_load_row 23 (.tmp 5) (by rfl) (w.heap.size + 1 + 1) (by rfl) _ _ _ _ O7 Try.underlying23 rfl (icol.trans (by rw [arrv_size]))) ?_; with_reducible rfl)
      (try simp only [Act.put, nA, nB, nC])
      refine wpList_done (w' := ?_) rfl ?_ ?_
      rotate_left
      · (refine Eq.trans (run_store_row 23 (.tmp 4) (.tmp 18) (by rfl) (w.heap.size + 1) (by rfl) (by rfl) P7 (icol.trans rfl)) ?_; with_reducible rfl)
      (try simp only [Act.put, nA, nB, nC])
      refine wpList_nil ?_
      have r1 := P7.setRow G
      have U1 := R2.out.upd.then' (below_row (Below.refl _ _) (show w.heap.size ≤ w.heap.size + 1 by omega) (arrv 24 G))
      generalize wr.setRow (w.heap.size + 1) (arrv 24 G) = W9 at *
      go_wp2_with fail
      exact bodyPost_ret (results_cell_row Try.results13 _ _ (w.heap.size + 1) 23 (arrv 24 G) (0, 0) _ rfl r1 Try.underlying23 rfl (icol.trans (by rw [arrv_size]))) rfl ⟨by rw [HG.out], U1⟩
end Go.Proofs.Ytipkdkeacdmnaaa
/- Stores in a region that draws its order, by their runs: the walk's goal is never looked into. -/
namespace Go.Proofs.Ytipkdkeacdmnaaa
open Go.RowKit
end Go.Proofs.Ytipkdkeacdmnaaa
/- Arguments that are arrays of int64 (or structs of such): opened as numbers; a slice of int64 too. Of no one program. -/
namespace Go.Proofs.Ytipkdkeacdmnaaa
open Go.RowKit Go.ChangeShapes
def AllInt (cs : List Value) : Prop := ∀ v, v ∈ cs → ∃ z, v = .int .i64 z ∧ (Lit.int .i64 z).wf = true
section
variable {H : Type} {enc : TypeId × Value → H} {P : Program} {w : World} {base : Nat} {spare : Nat → Bool} {held : Bool}
/-- What reads as t is int64 numbers alone. -/
def Ints (enc : TypeId × Value → H) (P : Program) (w : World) (base : Nat) (spare : Nat → Bool) (held : Bool) (t : TypeId) : Prop :=
  ∀ fuel cs x, DataW.trod enc P w base spare held fuel t cs = some x → AllInt cs ∧ x.2 = []
theorem ints_int {t : TypeId} (hu : P.underlying t = some (.int .i64)) : Ints enc P w base spare held t := by
  intro fuel cs x h
  obtain ⟨n, h1, h2, h3⟩ := DataW.trod_int hu h
  subst h1
  refine ⟨fun v hv => ?_, ?_⟩
  · rw [List.mem_singleton] at hv; exact ⟨n, hv, h3⟩
  · rw [h2]
theorem ints_array {t e : TypeId} {n m : Nat} (hu : P.underlying t = some (.array n e)) (hc : P.cellsOf t = n * m) (hm : P.cellsOf e = m) (he : Ints enc P w base spare held e) : Ints enc P w base spare held t := by
  intro fuel cs x h
  obtain ⟨xs, k, rfl, rfl, hl, hx, hi⟩ := DataW.trod_array hu h
  rw [hc] at hl
  rw [hm] at hi
  refine ⟨fun v hv => ?_, ?_⟩
  · obtain ⟨q, hq, rfl⟩ := List.getElem_of_mem hv
    have hm0 : 0 < m := by
      rcases Nat.eq_zero_or_pos m with h0 | h0
      · subst h0; omega
      · exact h0
    have hqm : q / m < n := by rw [Nat.div_lt_iff_lt_mul hm0]; omega
    have hh := hi (q / m) hqm
    rw [List.getElem?_eq_getElem (by omega)] at hh
    refine (he _ _ _ hh).1 _ ?_
    rw [List.mem_iff_getElem?]
    refine ⟨q % m, ?_⟩
    rw [List.getElem?_take_of_lt (Nat.mod_lt _ hm0), List.getElem?_drop, Nat.mul_comm, Nat.div_add_mod]
    exact List.getElem?_eq_getElem hq
  · show xs.flatMap (·.2) = []
    rw [List.flatMap_eq_nil_iff]
    intro y hy
    obtain ⟨q, hq, rfl⟩ := List.getElem_of_mem hy
    have hh := hi q (by omega)
    rw [List.getElem?_eq_getElem hq] at hh
    exact (he _ _ _ hh).2
/-- A struct of two: U's numbers, then D's. -/
theorem ints_struct2 {t : TypeId} {f0 f1 : Field} {a b : Nat} (hu : P.underlying t = some (.struct #[f0, f1])) (hc : P.cellsOf t = a + b) (o0 : f0.offset = 0) (o1 : f1.offset = a) (c0 : P.cellsOf f0.type = a) (c1 : P.cellsOf f1.type = b)
    (h0 : Ints enc P w base spare held f0.type) (h1 : Ints enc P w base spare held f1.type) : Ints enc P w base spare held t := by
  intro fuel cs x h
  obtain ⟨xs, k, rfl, rfl, hl, hx, hi⟩ := DataW.trod_struct hu h
  rw [hc] at hl
  have hx2 : xs.length = 2 := hx
  have g0 := hi 0 f0 rfl
  have g1 := hi 1 f1 rfl
  rw [List.getElem?_eq_getElem (by omega)] at g0 g1
  have r0 := h0 _ _ _ g0
  have r1 := h1 _ _ _ g1
  refine ⟨fun v hv => ?_, ?_⟩
  · obtain ⟨q, hq, rfl⟩ := List.getElem_of_mem hv
    by_cases hqa : q < a
    · refine r0.1 _ ?_
      rw [List.mem_iff_getElem?]
      refine ⟨q, ?_⟩
      rw [c0, o0, List.drop_zero, List.getElem?_take_of_lt hqa]
      exact List.getElem?_eq_getElem hq
    · refine r1.1 _ ?_
      rw [List.mem_iff_getElem?]
      refine ⟨q - a, ?_⟩
      rw [c1, o1, List.getElem?_take_of_lt (by omega), List.getElem?_drop, show a + (q - a) = q by omega]
      exact List.getElem?_eq_getElem hq
  · show xs.flatMap (·.2) = []
    rw [List.flatMap_eq_nil_iff]
    intro y hy
    obtain ⟨q, hq, rfl⟩ := List.getElem_of_mem hy
    obtain rfl | rfl : q = 0 ∨ q = 1 := by omega
    · exact r0.2
    · exact r1.2
/-- A value of such a type: an aggregate of numbers. -/
theorem open_vec {r : Reach} {b0 n : Nat} {t : TypeId} {v : Value} {d : DataW H} {ps : List MemPlace} (hI : Ints enc P w base spare held t) (hc : P.cellsOf t = n)
    (hu : ∃ u, P.underlying t = some u ∧ (match u with | .struct _ | .array _ _ => true | _ => false) = true) (hval : Value.okWide P w r b0 t v) (hd : DataW.Trod enc P w base spare held t v d ps) :
    ∃ f : Nat → Int, v = .agg (arrv n f) ∧ (∀ i, -9223372036854775808 ≤ f i ∧ f i ≤ 9223372036854775807) ∧ ps = [] := by
  obtain ⟨u, hu1, hu2⟩ := hu
  have hv : ∃ cs, v = .agg cs ∧ cs.size = P.cellsOf t := by
    unfold Value.okWide at hval
    rw [hu1] at hval
    cases u <;> simp at hu2 hval <;> (obtain ⟨cs, h1, h2, _⟩ := hval; exact ⟨cs, h1, h2⟩)
  obtain ⟨cs, rfl, hs⟩ := hv
  rw [hc] at hs
  obtain ⟨fuel, hf⟩ := hd
  obtain ⟨hA, hp⟩ := hI _ _ _ hf
  have hA' : ∀ i, i < n → ∃ z, cs[i]? = some (.int .i64 z) ∧ (Lit.int .i64 z).wf = true := by
    intro i hi
    have hm : cs[i]'(by omega) ∈ (Value.agg cs).cells.toList := by simp [Value.cells]
    obtain ⟨z, hz, hw⟩ := hA _ hm
    exact ⟨z, by rw [Array.getElem?_eq_getElem (by omega), hz], hw⟩
  refine ⟨fun i => if h : i < n then Classical.choose (hA' i h) else 0, ?_, fun i => ?_, hp⟩
  · congr 1
    apply Array.ext_getElem?
    intro i
    by_cases hi : i < n
    · rw [arrv_get hi]
      simp only [dif_pos hi]
      exact (Classical.choose_spec (hA' i hi)).1
    · rw [Array.getElem?_eq_none (by omega), Array.getElem?_eq_none (by rw [arrv_size]; omega)]
  · by_cases hi : i < n
    · simp only [dif_pos hi]
      exact Go.bounds_i64 (Classical.choose_spec (hA' i hi)).2
    · simp only [dif_neg hi]; omega
end
end Go.Proofs.Ytipkdkeacdmnaaa
/- The join of a law: arguments that read before the call read behind it, if nothing that was there has turned. -/
namespace Go.Proofs.Ytipkdkeacdmnaaa
open Go.ChangeShapes Go.WideShapes Go.ChangeAt Go.RowKit
theorem trodAll_stays {H : Type} {enc : TypeId × Value → H} {P : Program} (hl : laidOutB P = true) {W W' : World} (hb : Below W.heap.size W W') {sp : Nat → Bool} : ∀ {ts : List TypeId} {vs : List Value} {ds : List (DataW H)} {p : List MemPlace},
    (ts.all fun t => P.readableRec t && decide (t < P.types.size)) = true → DataW.TrodAll enc P W 0 (fun _ => true) true ts vs ds p → (∀ x ∈ p, x.block < W.heap.size) → (∀ x ∈ p, sp x.block = true) → DataW.TrodAll enc P W' 0 sp true ts vs ds p
  | [], [], [], _, _, h, _, _ => h
  | t :: ts, v :: vs, d :: ds, p, ht, h, hlt, hsp => by
    obtain ⟨q, r, h1, h2, rfl⟩ := h
    rw [List.all_cons, Bool.and_eq_true, Bool.and_eq_true, decide_eq_true_eq] at ht
    exact ⟨q, r, WideElems.Trod_stays hl ht.1.1 ht.1.2 h1 (fun x hx => hb.same (hlt x (List.mem_append_left _ hx))) (fun x hx => hsp x (List.mem_append_left _ hx)),
      trodAll_stays hl hb ht.2 h2 (fun x hx => hlt x (List.mem_append_right _ hx)) (fun x hx => hsp x (List.mem_append_right _ hx)), rfl⟩
  | [], _ :: _, _, _, _, h, _, _ => by cases ‹List (DataW H)› <;> exact h.elim
  | [], [], _ :: _, _, _, h, _, _ => h.elim
  | _ :: _, [], _, _, _, h, _, _ => by cases ‹List (DataW H)› <;> exact h.elim
  | _ :: _, _ :: _, [], _, _, h, _, _ => h.elim
/-- What a law owes behind the call: it answers true, and nothing that was there has turned. -/
theorem law_post {H : Type} {enc : TypeId × Value → H} {P : Program} {f : Func} {s : ChangeSpec} {apart fresh handsOn again : Bool} {W W' : World} {args : Array Value} {ds gs : List (DataW H)} {before : List MemPlace} {tb : TypeId}
    (hW : DataW.Whole enc P f.params.toList s.vars apart W args.toList ds gs before) (hv : s.vars = []) (hfn : s.fn H ds = { results := [.lit (.bool true)], args := ds })
    (hu : P.underlying tb = some .bool) (hr : f.resultTypes = #[tb]) (hl : laidOutB P = true) (hts : (f.params.toList.all fun t => P.readableRec t && decide (t < P.types.size)) = true) (hb : Below W.heap.size W W') :
    s.post enc P f apart fresh handsOn again W args (.bool true) W' := by
  have hlt : ∀ x ∈ before, x.block < W.heap.size := fun x hx => hW.lt x hx
  have hW0 := hW
  obtain ⟨p, q, hA, hV, rfl, hfz, hnd⟩ := hW
  rw [hv] at hV
  obtain ⟨rfl, rfl⟩ := trodVars_none hV
  rw [List.append_nil] at hlt
  have hargs : ∀ sp : Nat → Bool, (∀ x ∈ p, sp x.block = true) → DataW.TrodAll enc P W' 0 sp true f.params.toList args.toList ds p := fun sp hsp => trodAll_stays hl hb hts hA hlt hsp
  have hvars : ∀ sp : Nat → Bool, DataW.TrodVars enc P W' sp s.vars ([] : List (DataW H)) [] := fun sp => by rw [hv]; exact rfl
  have hres : ∀ (b : Nat) (sp : Nat → Bool) (hd : Bool), DataW.TrodAll enc P W' b sp hd f.resultTypes.toList ((Value.bool true).resultList f.resultTypes.size) [.lit (.bool true)] [] := fun b sp hd => by
    rw [hr]; exact trodAll_mk1 (shut_bool hu _)
  have hold : ∀ x ∈ p, (fun b => decide (b < W.heap.size)) x.block = true := fun x hx => by simpa using hlt x hx
  have hfn' : s.fn H (ds ++ []) = { results := [.lit (.bool true)], args := ds } := by rw [List.append_nil]; exact hfn
  refine ⟨ds, [], p ++ [], [], p, [], hW0, ?_, ?_, ?_, World.keptBut_mono (fun x hx => ⟨hx, ?_⟩) (hb.frame (· ∈ p ++ [])), fun _ => ?_⟩
  · rw [hfn']; exact hres _ _ _
  · rw [hfn']; exact hargs _ hold
  · rw [hfn']; exact hvars _
  · rw [List.append_nil] at hx; exact Or.inr (.inl hx)
  · refine ⟨ok_one hr rfl (okWide_bool_mk hu _), _, _, ([] ++ p) ++ [], ⟨[] ++ p, [], trodAll_append (hargs _ (fun _ _ => rfl)) (hres _ _ _), hvars _, rfl, ?_, ?_⟩, ?_⟩
    · intro b off hx
      have hin : MemPlace.cell b off ∈ p := by simpa using hx
      rw [hb.frozen (p := ⟨b, off, none⟩) (hlt _ hin)]
      exact hfz b off (by simpa using hin)
    · intro ha
      simpa using hnd ha
    · intro x hx _
      simpa using hx
/-- A slice of int64 (or of int: the numbers are of the same kind), opened. -/
theorem open_slc {H : Type} {enc : TypeId × Value → H} {P : Program} {w : World} {base : Nat} {spare : Nat → Bool} {held : Bool} {r : Reach} {b0 : Nat} {t e : TypeId} {v : Value} {d : DataW H} {ps : List MemPlace} (ht : P.underlying t = some (.slice e)) (he : P.underlying e = some (.int .i64)) (hc : P.cellsOf e = 1)
    (hval : Value.okWide P w r b0 t v) (hd : DataW.Trod enc P w base spare held t v d ps) :
    ∃ p n cp L, v = .slice p n cp ∧ Slc w p n L ∧ n ≤ 9223372036854775807 ∧ ∀ i, -9223372036854775808 ≤ L i ∧ L i ≤ 9223372036854775807 := by
  obtain ⟨a, n, cp, rfl⟩ := okWide_slice ht hval
  obtain ⟨fuel, hf⟩ := hd
  rcases open_ints ht he hc hf with ⟨h0, _⟩ | ⟨ad, len, cap, zs, h0, _, hlc, hcm, hlen, _, hcell, hwf⟩
  · simp [Value.cells] at h0
    obtain ⟨rfl, rfl, rfl⟩ := h0
    exact ⟨none, 0, 0, fun _ => 0, rfl, fun i hi => by omega, by omega, fun _ => ⟨by show (-9223372036854775808 : Int) ≤ 0; omega, by show (0 : Int) ≤ 9223372036854775807; omega⟩⟩
  · simp [Value.cells] at h0
    obtain ⟨rfl, rfl, rfl⟩ := h0
    have hz : n ≤ zs.length := by rw [hlen]; split <;> omega
    refine ⟨some ad, n, cp, fun i => zs.getD i 0, rfl, fun i hi => ?_, by unfold maxLen at hcm; omega, fun i => ?_⟩
    · obtain ⟨b, off, rfl, hb⟩ := ints_at hcell (by omega)
      exact ⟨b, off, rfl, hb i (by omega)⟩
    · by_cases hi : i < zs.length
      · have := Go.bounds_i64 (hwf _ (List.getElem_mem hi))
        simpa [hi] using this
      · simp [List.getElem?_eq_none (by omega : zs.length ≤ i)]
section
variable {H : Type} {enc : TypeId × Value → H} {w : World} {base : Nat} {spare : Nat → Bool} {held : Bool}
theorem cells_of_size {P : Program} {t : TypeId} {n : Nat} (h : (P.info? t).map (·.size) = some n) : P.cellsOf t = n := by
  unfold Program.cellsOf
  cases e : P.info? t with
  | none => rw [e] at h; cases h
  | some i => rw [e] at h; simpa using h
theorem cells_i64 : Try.prog.cellsOf 2 = 1 := cells_of_size (by kernel_rfl)
theorem cells_col : Try.prog.cellsOf 23 = 24 := cells_of_size (by kernel_rfl)
theorem cells_u : Try.prog.cellsOf 22 = 276 := cells_of_size (by kernel_rfl)
theorem cells_cov : Try.prog.cellsOf 25 = 300 := cells_of_size (by kernel_rfl)
theorem ints_i64 : Ints enc Try.prog w base spare held 2 := ints_int Try.underlying2
theorem ints_col : Ints enc Try.prog w base spare held 23 := ints_array (n := 24) (m := 1) Try.underlying23 cells_col cells_i64 ints_i64
theorem ints_u : Ints enc Try.prog w base spare held 22 := ints_array (n := 276) (m := 1) Try.underlying22 cells_u cells_i64 ints_i64
theorem ints_cov : Ints enc Try.prog w base spare held 25 := ints_struct2 (a := 276) (b := 24) Try.underlying25 cells_cov rfl rfl cells_u cells_col ints_u ints_col
theorem own_knob : ownKnob Try.prog.godebug = none := by kernel_rfl
theorem laid_out : laidOutB Try.prog = true := by kernel_rfl
end
end Go.Proofs.Ytipkdkeacdmnaaa
