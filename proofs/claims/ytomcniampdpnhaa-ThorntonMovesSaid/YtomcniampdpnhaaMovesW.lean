/- The walk of the law ThorntonMoves. -/
import Derived.Test.YtomcniampdpnhaaAwake
import Derived.Test.YtomcniampdpnhaaAt
import Derived.Test.YtomcniampdpnhaaMoveL
namespace Go.Proofs.Ytomcniampdpnhaa
open Go.RowKit
set_option maxRecDepth 100000
/-- Variances alone: the least ones, a at the velocity, b at the place. -/
def mvI (a b : Int) : Nat → Int := upd (upd (newF 0 (fun _ => 0)) 280 a) 283 b
theorem mvI_diag {a b : Int} (ha : 1073741824 ≤ a ∧ a ≤ 281474976710656) (hb : 1073741824 ≤ b ∧ b ≤ 281474976710656) : DiagF (mvI a b) := by
  constructor
  · intro x hx
    unfold mvI upd newF
    rw [if_neg (by omega), if_neg (by omega), if_pos hx]
  · intro i hi
    unfold mvI upd newF
    split
    · omega
    · split
      · omega
      · rw [if_neg (by omega), if_neg (by omega)]; omega
theorem mvI_4 (a b : Int) : mvI a b 280 = a := rfl
theorem mvI_7 (a b : Int) : mvI a b 283 = b := rfl
theorem new0H : newH 0 (fun _ => 0) = false := by decide
theorem mv_noop (a b t : Int) (w : World) (h : a < 1073741824 ∨ 281474976710656 < a ∨ b < 1073741824 ∨ 281474976710656 < b ∨ t < 0 ∨ 1073741824 < t) :
    Calls Try.prog 5 #[.int .i64 a, .int .i64 b, .int .i64 t] w fun e w' => e = .returned (.bool true) ∧ Below w.heap.size w w' := by
  go_enter Try.func5, Try.ntmps5
  go_wp2_with (go_at_call 6; (refine (awake_any _).mono ?_); rintro e w1 ⟨rfl, hb1⟩)
  all_goals (first | (exfalso; omega) | (go_ret; exact ⟨rfl, hb1⟩))
theorem mvI_set (a b : Int) : upd (upd (newF 0 (fun _ => 0)) 280 a) 283 b = mvI a b := rfl
set_option maxHeartbeats 4000000 in
theorem mv_yes (a b t : Int) (w : World) (ha : 1073741824 ≤ a ∧ a ≤ 281474976710656) (hb : 1073741824 ≤ b ∧ b ≤ 281474976710656) (ht : 0 ≤ t ∧ t ≤ 1073741824) :
    Calls Try.prog 5 #[.int .i64 a, .int .i64 b, .int .i64 t] w fun e w' => e = .returned (.bool true) ∧ Below w.heap.size w w' := by
  have hd := mvI_diag ha hb
  have LW := move_law hd ht ha hb
  have hH := mvO_H hd ht ha hb
  have t1 : decide (a < 1073741824) = false := by simp; omega
  have t2 : decide (281474976710656 < a) = false := by simp; omega
  have t3 : decide (b < 1073741824) = false := by simp; omega
  have t4 : decide (281474976710656 < b) = false := by simp; omega
  have t5 : decide (t < 0) = false := by simp; omega
  have t6 : decide (1073741824 < t) = false := by simp; omega
  rw [mvI_4, mvI_7] at LW
  obtain ⟨O, hO⟩ : ∃ x, mvO (mvI a b) t = x := ⟨_, rfl⟩
  obtain ⟨D, hD⟩ : ∃ x, mvD t a b = x := ⟨_, rfl⟩
  obtain ⟨m1, hm1⟩ : ∃ x, mulV a t 30 = x := ⟨_, rfl⟩
  obtain ⟨m2, hm2⟩ : ∃ x, mulV m1 t 30 = x := ⟨_, rfl⟩
  obtain ⟨p, hp⟩ : ∃ x, atV O 4 7 = x := ⟨_, rfl⟩
  obtain ⟨v, hv⟩ : ∃ x, atV O 4 4 = x := ⟨_, rfl⟩
  rw [hO, hD, hm1, hm2, hp, hv] at LW
  obtain ⟨⟨L1, L2⟩, ⟨L3, L4⟩, ⟨L5, L6⟩, ⟨L7, L8, L9⟩, ⟨L10, L11, L12⟩, L13, L14, L15⟩ := LW
  have FA := Lib.hid (fun (c : Addr) (x : World) (k1 : x.cell? c = some (.bool false)) (k2 : x.frozen? c = false) => at_any c false O 7 7 x k1 k2 (by decide) (by decide))
  have FB := Lib.hid (fun (c : Addr) (x : World) (k1 : x.cell? c = some (.bool false)) (k2 : x.frozen? c = false) => at_any c false O 4 7 x k1 k2 (by decide) (by decide))
  have FC := Lib.hid (fun (c : Addr) (x : World) (k1 : x.cell? c = some (.bool false)) (k2 : x.frozen? c = false) => at_any c false O 4 4 x k1 k2 (by decide) (by decide))
  have FD := Lib.hid (fun (c : Addr) (x : World) (k1 : x.cell? c = some (.bool false)) (k2 : x.frozen? c = false) => fmul_any c false a t 30 x k1 k2)
  have FE := Lib.hid (fun (c : Addr) (x : World) (k1 : x.cell? c = some (.bool false)) (k2 : x.frozen? c = false) => fmul_any c false m1 t 30 x k1 k2)
  simp only [L1, L2, Bool.or_false, show ((7 : Nat) : Int) = 7 from rfl] at FA
  simp only [hp, L9, Bool.or_false, show ((7 : Nat) : Int) = 7 from rfl, show ((4 : Nat) : Int) = 4 from rfl] at FB
  simp only [hv, L12, Bool.or_false, show ((4 : Nat) : Int) = 4 from rfl] at FC
  simp only [hm1, L5, Bool.or_false] at FD
  simp only [hm2, L6, Bool.or_false] at FE
  obtain ⟨x, hx⟩ : ∃ x, D - b - m2 = x := ⟨_, rfl⟩
  obtain ⟨y, hy⟩ : ∃ x, p - m1 = x := ⟨_, rfl⟩
  obtain ⟨z, hz⟩ : ∃ x, v - a = x := ⟨_, rfl⟩
  have s1 := Lib.hid (show IntKind.i64.wrap (D - b) = D - b from IntWalk.i64_in _ (by omega))
  have s2 := Lib.hid (show IntKind.i64.wrap (D - b - m2) = x from by rw [← hx]; exact IntWalk.i64_in _ (by omega))
  have s3 := Lib.hid (show IntKind.i64.wrap (p - m1) = y from by rw [← hy]; exact IntWalk.i64_in _ (by omega))
  have s4 := Lib.hid (show IntKind.i64.wrap (v - a) = z from by rw [← hz]; exact IntWalk.i64_in _ (by omega))
  have s5 := Lib.hid (show IntKind.i64.wrap (-4194304) = -4194304 from by decide)
  have d1 := Lib.hid (show decide (x ≤ 4194304) = true from by simp; omega)
  have d2 := Lib.hid (show decide (-4194304 ≤ x) = true from by simp; omega)
  have d3 := Lib.hid (show decide (y ≤ 4194304) = true from by simp; omega)
  have d4 := Lib.hid (show decide (-4194304 ≤ y) = true from by simp; omega)
  have d5 := Lib.hid (show decide (z ≤ 4194304) = true from by simp; omega)
  have d6 := Lib.hid (show decide (-4194304 ≤ z) = true from by simp; omega)
  have HH := Lib.hid hH
  have HO := Lib.hid hO
  clear hH ha hb ht hd hO hD hm1 hm2 hp hv L1 L2 L3 L4 L5 L6 L7 L8 L9 L10 L11 L12 L13 L14 L15 hx hy hz
  go_enter Try.func5, Try.ntmps5
  go_upto_region 6 with (go_at_call 6; (refine (awake_any _).mono ?_); rintro e w1 ⟨rfl, hb1⟩; have HB1 := Lib.hid hb1; clear hb1)
  have A2 := Lib.hid (HB1.out.alloc HB1.out.size (.cells #[.bool false] 32))
  have K2 := Lib.hid (Flg.new w1 false)
  have hz1 : w.heap.size ≤ w1.heap.size := HB1.out.size
  clear HB1
  obtain ⟨w2, hw2⟩ : ∃ x, x = w1.alloc (.cells #[.bool false] 32) := ⟨_, rfl⟩
  rw [← hw2] at A2 K2 ⊢
  clear hw2
  obtain ⟨bc, hbc⟩ : ∃ bc, w1.heap.size = bc := ⟨_, rfl⟩
  rw [hbc] at K2 hz1 ⊢
  clear hbc w1
  have NC := Lib.hid (new_any ⟨bc, 0, none⟩ false none 0 0 (fun _ => 0) w2 K2.out.cell K2.out.free (fun i hi => by omega))
  rw [new0H] at NC
  refine wp_region_lit ?_
  refine wpList_val (v := ?_) rfl ?_ ?_
  rotate_left
  · (go_simp; (try (first | with_reducible rfl | (constructor <;> with_reducible rfl))))
  (try simp only [Act.put, List.setIfInBounds_toArray, List.set_cons_zero, List.set_cons_succ])
  refine wpList_step (fun K hK => ?_)
  go_simp
  (refine NC.out.mono ?_); rintro e w3 ⟨rfl, hu3⟩; have HU3 := Lib.hid hu3; have R3 : Blk (w3.alloc (.cells Try.zeroCells25 25)) w3.heap.size 25 300 (fun _ => 0) := (by rw [zcov]; exact Blk.new _ _ _ _); clear hu3
  (try dsimp only)
  (try simp only [Act.put, List.setIfInBounds_toArray, List.set_cons_zero, List.set_cons_succ])
  refine hK _ _ ?_
  clear hK K
  refine wpList_act (v := ?_) (w' := ?_) rfl ?_ ?_
  rotate_left 2
  · (go_simp; (try (first | with_reducible rfl | (constructor <;> with_reducible rfl))))
  (try simp only [Act.put, List.setIfInBounds_toArray, List.set_cons_zero, List.set_cons_succ])
  refine wpList_done (w' := ?_) rfl ?_ ?_
  rotate_left
  · refine Eq.trans (run_store_row 25 (.tmp 8) (.tmp 42) (by rfl) (w3.heap.size) (by rfl) (by rfl) (R3) (icov.trans rfl)) ?_; with_reducible rfl
  (try simp only [Act.put, List.setIfInBounds_toArray, List.set_cons_zero, List.set_cons_succ])
  refine wpList_nil ?_
  go_upto_region 7 with fail
  obtain ⟨w4, hw4⟩ : ∃ x, x = ((w3.alloc (.cells Try.zeroCells25 25)).setRow w3.heap.size (arrv 300 (newF 0 (fun _ => 0)))) := ⟨_, rfl⟩
  rw [← hw4]
  have M4 := Lib.hid (Blk.made zcov (newF 0 (fun _ => 0)) hw4)
  have A4 := Lib.hid (Below.after (own_upd A2.out (show w.heap.size ≤ bc from hz1) HU3.out) M4.out.2)
  have K4 := Lib.hid ((K2.out.hit HU3.out).below M4.out.2)
  have hz4 : bc < w3.heap.size := by have := K2.out.lt; have := HU3.out.size; omega
  have hz5 : w3.heap.size < w4.heap.size := M4.out.1.lt
  have B4 := Lib.hid M4.out.1
  clear hw4 R3 HU3 M4 A2 K2 NC
  obtain ⟨bp, hbp⟩ : ∃ x, w3.heap.size = x := ⟨_, rfl⟩
  rw [hbp] at B4 hz4 hz5 ⊢
  clear hbp w3
  have c0 := B4.out.cell (i := 280) (by omega)
  have c1 := B4.out.free 280
  go_upto_region 8 with fail
  have B5 := Lib.hid (B4.out.set 280 a)
  have K5 := Lib.hid (K4.out.other (a := ⟨bp, 280, none⟩) (show bc ≠ bp by omega) (.int .i64 a))
  have A5 := Lib.hid (A4.out.setCell (show w.heap.size ≤ (⟨bp, 280, none⟩ : Addr).block by show w.heap.size ≤ bp; omega) (.int .i64 a))
  clear c0 c1 B4 K4 A4
  obtain ⟨w5, hw5⟩ : ∃ x, x = w4.setCell ⟨bp, 280, none⟩ (.int .i64 a) := ⟨_, rfl⟩
  rw [← hw5] at B5 K5 A5 ⊢
  clear hw5 hz5 w4
  have c0 := B5.out.cell (i := 283) (by omega)
  have c1 := B5.out.free 283
  go_upto_region 9 with fail
  have B6 := Lib.hid (B5.out.set 283 b)
  rw [mvI_set] at B6
  have K6 := Lib.hid (K5.out.other (a := ⟨bp, 283, none⟩) (show bc ≠ bp by omega) (.int .i64 b))
  have A6 := Lib.hid (A5.out.setCell (show w.heap.size ≤ (⟨bp, 283, none⟩ : Addr).block by show w.heap.size ≤ bp; omega) (.int .i64 b))
  clear c0 c1 B5 K5 A5
  obtain ⟨w6, hw6⟩ : ∃ x, x = w5.setCell ⟨bp, 283, none⟩ (.int .i64 b) := ⟨_, rfl⟩
  rw [← hw6] at B6 K6 A6 ⊢
  clear hw6 w5
  refine wp_region_lit ?_
  refine wpList_step (fun K hK => ?_)
  go_simp
  (refine (one_any _).mono ?_); rintro e w7 ⟨rfl, hb7⟩; have HB7 := Lib.hid hb7; have R7 : Blk (w7.alloc (.cells Try.zeroCells27 27)) w7.heap.size 27 576 (fun _ => 0) := (by rw [zmat]; exact Blk.new _ _ _ _); clear hb7
  (try dsimp only)
  (try simp only [Act.put, List.setIfInBounds_toArray, List.set_cons_zero, List.set_cons_succ])
  refine hK _ _ ?_
  clear hK K
  refine wpList_act (v := ?_) (w' := ?_) rfl ?_ ?_
  rotate_left 2
  · (go_simp; (try (first | with_reducible rfl | (constructor <;> with_reducible rfl))))
  (try simp only [Act.put, List.setIfInBounds_toArray, List.set_cons_zero, List.set_cons_succ])
  refine wpList_done (w' := ?_) rfl ?_ ?_
  rotate_left
  · refine Eq.trans (run_store_row 27 (.tmp 9) (.tmp 49) (by rfl) (w7.heap.size) (by rfl) (by rfl) (R7) (imat.trans rfl)) ?_; with_reducible rfl
  (try simp only [Act.put, List.setIfInBounds_toArray, List.set_cons_zero, List.set_cons_succ])
  refine wpList_nil ?_
  go_upto_region 10 with fail
  obtain ⟨w8, hw8⟩ : ∃ x, x = ((w7.alloc (.cells Try.zeroCells27 27)).setRow w7.heap.size (arrv 576 oneF)) := ⟨_, rfl⟩
  rw [← hw8]
  have M8 := Lib.hid (Blk.made zmat oneF hw8)
  have A8 := Lib.hid (Below.after A6.out (Below.after HB7.out M8.out.2))
  have K8 := Lib.hid (K6.out.below (Below.after HB7.out M8.out.2))
  have B8 := Lib.hid (B6.out.below (Below.after HB7.out M8.out.2))
  have hz8 : bp < w7.heap.size := by have := B6.out.lt; have := HB7.out.size; omega
  have F8 := Lib.hid M8.out.1
  clear hw8 R7 HB7 M8 A6 K6 B6
  obtain ⟨bf, hbf⟩ : ∃ x, w7.heap.size = x := ⟨_, rfl⟩
  rw [hbf] at F8 hz8 ⊢
  clear hbf w7
  have c0 := F8.out.cell (i := 172) (by omega)
  have c1 := F8.out.free 172
  go_upto_region 11 with fail
  have F9 := Lib.hid ((F8.out.set 172 t).congr (g := mvF 7 4 t) fun i hi => rfl)
  have K9 := Lib.hid (K8.out.other (a := ⟨bf, 172, none⟩) (show bc ≠ bf by omega) (.int .i64 t))
  have B9 := Lib.hid (B8.out.other (a := ⟨bf, 172, none⟩) (show bp ≠ bf by omega) (.int .i64 t))
  have A9 := Lib.hid (A8.out.setCell (show w.heap.size ≤ (⟨bf, 172, none⟩ : Addr).block by show w.heap.size ≤ bf; omega) (.int .i64 t))
  clear c0 c1 F8 K8 B8 A8
  obtain ⟨w9, hw9⟩ : ∃ x, x = w8.setCell ⟨bf, 172, none⟩ (.int .i64 t) := ⟨_, rfl⟩
  rw [← hw9] at F9 K9 B9 A9 ⊢
  clear hw9 w8
  have SC := Lib.hid (step_any ⟨bc, 0, none⟩ false (mvI a b) (mvF 7 4 t) (fun _ => 0) w9 K9.out.cell K9.out.free)
  rw [HH.out, show stepF (mvI a b) (mvF 7 4 t) (fun _ => 0) = mvO (mvI a b) t from rfl] at SC
  rw [HO.out] at SC
  have Z1 := Lib.hid zcol
  clear HO HH
  refine wp_region_lit ?_
  refine wpList_val (v := ?_) rfl ?_ ?_
  rotate_left
  · (go_simp; (try (first | with_reducible rfl | (constructor <;> with_reducible rfl))))
  (try simp only [Act.put, List.setIfInBounds_toArray, List.set_cons_zero, List.set_cons_succ])
  refine wpList_val (v := ?_) rfl ?_ ?_
  rotate_left
  · refine Eq.trans (run_load_row 25 (.tmp 8) (by rfl) (bp) (by rfl) _ _ _ _ (B9.out) Try.underlying25 rfl (icov.trans (by rw [arrv_size]))) ?_; with_reducible rfl
  (try simp only [Act.put, List.setIfInBounds_toArray, List.set_cons_zero, List.set_cons_succ])
  refine wpList_val (v := ?_) rfl ?_ ?_
  rotate_left
  · refine Eq.trans (run_load_row 27 (.tmp 9) (by rfl) (bf) (by rfl) _ _ _ _ (F9.out) Try.underlying27 rfl (imat.trans (by rw [arrv_size]))) ?_; with_reducible rfl
  (try simp only [Act.put, List.setIfInBounds_toArray, List.set_cons_zero, List.set_cons_succ])
  refine wpList_val (v := ?_) rfl ?_ ?_
  rotate_left
  · go_simp; rw [Z1.out]
  (try simp only [Act.put, List.setIfInBounds_toArray, List.set_cons_zero, List.set_cons_succ])
  refine wpList_step (fun K hK => ?_)
  go_simp
  (refine SC.out.mono ?_); rintro e w10 ⟨rfl, hu10⟩; have HU10 := Lib.hid hu10; have R10 : Blk (w10.alloc (.cells Try.zeroCells25 25)) w10.heap.size 25 300 (fun _ => 0) := (by rw [zcov]; exact Blk.new _ _ _ _); clear hu10
  (try dsimp only)
  (try simp only [Act.put, List.setIfInBounds_toArray, List.set_cons_zero, List.set_cons_succ])
  refine hK _ _ ?_
  clear hK K
  refine wpList_act (v := ?_) (w' := ?_) rfl ?_ ?_
  rotate_left 2
  · (go_simp; (try (first | with_reducible rfl | (constructor <;> with_reducible rfl))))
  (try simp only [Act.put, List.setIfInBounds_toArray, List.set_cons_zero, List.set_cons_succ])
  refine wpList_done (w' := ?_) rfl ?_ ?_
  rotate_left
  · refine Eq.trans (run_store_row 25 (.tmp 10) (.tmp 57) (by rfl) (w10.heap.size) (by rfl) (by rfl) (R10) (icov.trans rfl)) ?_; with_reducible rfl
  (try simp only [Act.put, List.setIfInBounds_toArray, List.set_cons_zero, List.set_cons_succ])
  refine wpList_nil ?_
  go_upto_region 12 with fail
  obtain ⟨w11, hw11⟩ : ∃ x, x = ((w10.alloc (.cells Try.zeroCells25 25)).setRow w10.heap.size (arrv 300 O)) := ⟨_, rfl⟩
  rw [← hw11]
  have M11 := Lib.hid (Blk.made zcov O hw11)
  have A11 := Lib.hid (Below.after (own_upd A9.out (show w.heap.size ≤ bc from hz1) HU10.out) M11.out.2)
  have K11 := Lib.hid ((K9.out.hit HU10.out).below M11.out.2)
  have hz11 : bc < w10.heap.size := by have := K9.out.lt; have := HU10.out.size; omega
  have B11 := Lib.hid M11.out.1
  clear hw11 R10 HU10 M11 A9 K9 SC B9 F9
  obtain ⟨bq, hbq⟩ : ∃ x, w10.heap.size = x := ⟨_, rfl⟩
  rw [hbq] at B11 hz11 ⊢
  clear hbq w10
  refine wp_region_lit ?_
  refine wpList_val (v := ?_) rfl ?_ ?_
  rotate_left
  · (go_simp; (try (first | with_reducible rfl | (constructor <;> with_reducible rfl))))
  (try simp only [Act.put, List.setIfInBounds_toArray, List.set_cons_zero, List.set_cons_succ])
  refine wpList_val (v := ?_) rfl ?_ ?_
  rotate_left
  · refine Eq.trans (run_load_row 25 (.tmp 10) (by rfl) (bq) (by rfl) _ _ _ _ (B11.out) Try.underlying25 rfl (icov.trans (by rw [arrv_size]))) ?_; with_reducible rfl
  (try simp only [Act.put, List.setIfInBounds_toArray, List.set_cons_zero, List.set_cons_succ])
  refine wpList_step (fun K hK => ?_)
  go_simp
  (refine (FA.out _ _ K11.out.cell K11.out.free).mono ?_); rintro e w12 ⟨rfl, hu12⟩; have K12 := Lib.hid (K11.out.hit hu12); have B12 := Lib.hid (B11.out.upd hu12 (show bq ≠ bc by omega)); have A12 := Lib.hid (own_upd A11.out (show w.heap.size ≤ bc from hz1) hu12); clear hu12
  (try dsimp only)
  (try simp only [Act.put, List.setIfInBounds_toArray, List.set_cons_zero, List.set_cons_succ])
  refine hK _ _ ?_
  clear hK K
  refine wpList_val (v := ?_) rfl ?_ ?_
  rotate_left
  · (go_simp; (try (first | with_reducible rfl | (constructor <;> with_reducible rfl))))
  (try simp only [Act.put, List.setIfInBounds_toArray, List.set_cons_zero, List.set_cons_succ])
  refine wpList_val (v := ?_) rfl ?_ ?_
  rotate_left
  · (go_simp; rw [s1.out])
  (try simp only [Act.put, List.setIfInBounds_toArray, List.set_cons_zero, List.set_cons_succ])
  refine wpList_val (v := ?_) rfl ?_ ?_
  rotate_left
  · (go_simp; (try (first | with_reducible rfl | (constructor <;> with_reducible rfl))))
  (try simp only [Act.put, List.setIfInBounds_toArray, List.set_cons_zero, List.set_cons_succ])
  refine wpList_val (v := ?_) rfl ?_ ?_
  rotate_left
  · (go_simp; (try (first | with_reducible rfl | (constructor <;> with_reducible rfl))))
  (try simp only [Act.put, List.setIfInBounds_toArray, List.set_cons_zero, List.set_cons_succ])
  refine wpList_val (v := ?_) rfl ?_ ?_
  rotate_left
  · (go_simp; (try (first | with_reducible rfl | (constructor <;> with_reducible rfl))))
  (try simp only [Act.put, List.setIfInBounds_toArray, List.set_cons_zero, List.set_cons_succ])
  refine wpList_val (v := ?_) rfl ?_ ?_
  rotate_left
  · (go_simp; (try (first | with_reducible rfl | (constructor <;> with_reducible rfl))))
  (try simp only [Act.put, List.setIfInBounds_toArray, List.set_cons_zero, List.set_cons_succ])
  refine wpList_step (fun K hK => ?_)
  go_simp
  (refine (FD.out _ _ K12.out.cell K12.out.free).mono ?_); rintro e w13 ⟨rfl, hu13⟩; have K13 := Lib.hid (K12.out.hit hu13); have B13 := Lib.hid (B12.out.upd hu13 (show bq ≠ bc by omega)); have A13 := Lib.hid (own_upd A12.out (show w.heap.size ≤ bc from hz1) hu13); clear hu13
  (try dsimp only)
  (try simp only [Act.put, List.setIfInBounds_toArray, List.set_cons_zero, List.set_cons_succ])
  refine hK _ _ ?_
  clear hK K
  refine wpList_val (v := ?_) rfl ?_ ?_
  rotate_left
  · (go_simp; (try (first | with_reducible rfl | (constructor <;> with_reducible rfl))))
  (try simp only [Act.put, List.setIfInBounds_toArray, List.set_cons_zero, List.set_cons_succ])
  refine wpList_step (fun K hK => ?_)
  go_simp
  (refine (FE.out _ _ K13.out.cell K13.out.free).mono ?_); rintro e w14 ⟨rfl, hu14⟩; have K14 := Lib.hid (K13.out.hit hu14); have B14 := Lib.hid (B13.out.upd hu14 (show bq ≠ bc by omega)); have A14 := Lib.hid (own_upd A13.out (show w.heap.size ≤ bc from hz1) hu14); clear hu14
  (try dsimp only)
  (try simp only [Act.put, List.setIfInBounds_toArray, List.set_cons_zero, List.set_cons_succ])
  refine hK _ _ ?_
  clear hK K
  refine wpList_val (v := ?_) rfl ?_ ?_
  rotate_left
  · (go_simp; rw [s2.out])
  (try simp only [Act.put, List.setIfInBounds_toArray, List.set_cons_zero, List.set_cons_succ])
  refine wpList_val (v := ?_) rfl ?_ ?_
  rotate_left
  · (go_simp; (try (first | with_reducible rfl | (constructor <;> with_reducible rfl))))
  (try simp only [Act.put, List.setIfInBounds_toArray, List.set_cons_zero, List.set_cons_succ])
  refine wpList_nil ?_
  go_upto_region 13 with fail
  refine wp_region_lit ?_
  refine wpList_val (v := ?_) rfl ?_ ?_
  rotate_left
  · (go_simp; (try (first | with_reducible rfl | (constructor <;> with_reducible rfl))))
  (try simp only [Act.put, List.setIfInBounds_toArray, List.set_cons_zero, List.set_cons_succ])
  refine wpList_val (v := ?_) rfl ?_ ?_
  rotate_left
  · refine Eq.trans (run_load_row 25 (.tmp 10) (by rfl) (bq) (by rfl) _ _ _ _ (B14.out) Try.underlying25 rfl (icov.trans (by rw [arrv_size]))) ?_; with_reducible rfl
  (try simp only [Act.put, List.setIfInBounds_toArray, List.set_cons_zero, List.set_cons_succ])
  refine wpList_step (fun K hK => ?_)
  go_simp
  (refine (FB.out _ _ K14.out.cell K14.out.free).mono ?_); rintro e w15 ⟨rfl, hu15⟩; have K15 := Lib.hid (K14.out.hit hu15); have B15 := Lib.hid (B14.out.upd hu15 (show bq ≠ bc by omega)); have A15 := Lib.hid (own_upd A14.out (show w.heap.size ≤ bc from hz1) hu15); clear hu15
  (try dsimp only)
  (try simp only [Act.put, List.setIfInBounds_toArray, List.set_cons_zero, List.set_cons_succ])
  refine hK _ _ ?_
  clear hK K
  refine wpList_val (v := ?_) rfl ?_ ?_
  rotate_left
  · (go_simp; (try (first | with_reducible rfl | (constructor <;> with_reducible rfl))))
  (try simp only [Act.put, List.setIfInBounds_toArray, List.set_cons_zero, List.set_cons_succ])
  refine wpList_val (v := ?_) rfl ?_ ?_
  rotate_left
  · (go_simp; (try (first | with_reducible rfl | (constructor <;> with_reducible rfl))))
  (try simp only [Act.put, List.setIfInBounds_toArray, List.set_cons_zero, List.set_cons_succ])
  refine wpList_val (v := ?_) rfl ?_ ?_
  rotate_left
  · (go_simp; (try (first | with_reducible rfl | (constructor <;> with_reducible rfl))))
  (try simp only [Act.put, List.setIfInBounds_toArray, List.set_cons_zero, List.set_cons_succ])
  refine wpList_step (fun K hK => ?_)
  go_simp
  (refine (FD.out _ _ K15.out.cell K15.out.free).mono ?_); rintro e w16 ⟨rfl, hu16⟩; have K16 := Lib.hid (K15.out.hit hu16); have B16 := Lib.hid (B15.out.upd hu16 (show bq ≠ bc by omega)); have A16 := Lib.hid (own_upd A15.out (show w.heap.size ≤ bc from hz1) hu16); clear hu16
  (try dsimp only)
  (try simp only [Act.put, List.setIfInBounds_toArray, List.set_cons_zero, List.set_cons_succ])
  refine hK _ _ ?_
  clear hK K
  refine wpList_val (v := ?_) rfl ?_ ?_
  rotate_left
  · (go_simp; rw [s3.out])
  (try simp only [Act.put, List.setIfInBounds_toArray, List.set_cons_zero, List.set_cons_succ])
  refine wpList_val (v := ?_) rfl ?_ ?_
  rotate_left
  · (go_simp; (try (first | with_reducible rfl | (constructor <;> with_reducible rfl))))
  (try simp only [Act.put, List.setIfInBounds_toArray, List.set_cons_zero, List.set_cons_succ])
  refine wpList_nil ?_
  go_upto_region 14 with fail
  refine wp_region_lit ?_
  refine wpList_val (v := ?_) rfl ?_ ?_
  rotate_left
  · (go_simp; (try (first | with_reducible rfl | (constructor <;> with_reducible rfl))))
  (try simp only [Act.put, List.setIfInBounds_toArray, List.set_cons_zero, List.set_cons_succ])
  refine wpList_val (v := ?_) rfl ?_ ?_
  rotate_left
  · refine Eq.trans (run_load_row 25 (.tmp 10) (by rfl) (bq) (by rfl) _ _ _ _ (B16.out) Try.underlying25 rfl (icov.trans (by rw [arrv_size]))) ?_; with_reducible rfl
  (try simp only [Act.put, List.setIfInBounds_toArray, List.set_cons_zero, List.set_cons_succ])
  refine wpList_step (fun K hK => ?_)
  go_simp
  (refine (FC.out _ _ K16.out.cell K16.out.free).mono ?_); rintro e w17 ⟨rfl, hu17⟩; have K17 := Lib.hid (K16.out.hit hu17); have A17 := Lib.hid (own_upd A16.out (show w.heap.size ≤ bc from hz1) hu17); clear hu17
  (try dsimp only)
  (try simp only [Act.put, List.setIfInBounds_toArray, List.set_cons_zero, List.set_cons_succ])
  refine hK _ _ ?_
  clear hK K
  refine wpList_val (v := ?_) rfl ?_ ?_
  rotate_left
  · (go_simp; (try (first | with_reducible rfl | (constructor <;> with_reducible rfl))))
  (try simp only [Act.put, List.setIfInBounds_toArray, List.set_cons_zero, List.set_cons_succ])
  refine wpList_val (v := ?_) rfl ?_ ?_
  rotate_left
  · (go_simp; rw [s4.out])
  (try simp only [Act.put, List.setIfInBounds_toArray, List.set_cons_zero, List.set_cons_succ])
  refine wpList_val (v := ?_) rfl ?_ ?_
  rotate_left
  · (go_simp; (try (first | with_reducible rfl | (constructor <;> with_reducible rfl))))
  (try simp only [Act.put, List.setIfInBounds_toArray, List.set_cons_zero, List.set_cons_succ])
  refine wpList_nil ?_
  go_upto_region 16 with fail
  have k0 := K17.out.cell
  refine wp_region_lit ?_
  refine wpList_val (v := ?_) rfl ?_ ?_
  rotate_left
  · (go_simp; (try (first | with_reducible rfl | (constructor <;> with_reducible rfl))))
  (try simp only [Act.put, List.setIfInBounds_toArray, List.set_cons_zero, List.set_cons_succ])
  refine wpList_val (v := ?_) rfl ?_ ?_
  rotate_left
  · (go_simp; (try (first | with_reducible rfl | (constructor <;> with_reducible rfl))))
  (try simp only [Act.put, List.setIfInBounds_toArray, List.set_cons_zero, List.set_cons_succ])
  refine wpList_val (v := ?_) rfl ?_ ?_
  rotate_left
  · (go_simp; rw [d1.out])
  (try simp only [Act.put, List.setIfInBounds_toArray, List.set_cons_zero, List.set_cons_succ])
  refine wpList_val (v := ?_) rfl ?_ ?_
  rotate_left
  · (go_simp; (try (first | with_reducible rfl | (constructor <;> with_reducible rfl))))
  (try simp only [Act.put, List.setIfInBounds_toArray, List.set_cons_zero, List.set_cons_succ])
  refine wpList_val (v := ?_) (by rfl) ?_ ?_
  rotate_left
  · (go_simp; (try (first | with_reducible rfl | (constructor <;> with_reducible rfl))))
  (try simp only [Act.put, List.setIfInBounds_toArray, List.set_cons_zero, List.set_cons_succ])
  refine wpList_val (v := ?_) (by rfl) ?_ ?_
  rotate_left
  · (go_simp; (try (first | with_reducible rfl | (constructor <;> with_reducible rfl))))
  (try simp only [Act.put, List.setIfInBounds_toArray, List.set_cons_zero, List.set_cons_succ])
  refine wpList_val (v := ?_) (by rfl) ?_ ?_
  rotate_left
  · (go_simp; rw [s5.out])
  (try simp only [Act.put, List.setIfInBounds_toArray, List.set_cons_zero, List.set_cons_succ])
  refine wpList_val (v := ?_) (by rfl) ?_ ?_
  rotate_left
  · (go_simp; rw [d2.out])
  (try simp only [Act.put, List.setIfInBounds_toArray, List.set_cons_zero, List.set_cons_succ])
  refine wpList_val (v := ?_) rfl ?_ ?_
  rotate_left
  · (go_simp; (try (first | with_reducible rfl | (constructor <;> with_reducible rfl))))
  (try simp only [Act.put, List.setIfInBounds_toArray, List.set_cons_zero, List.set_cons_succ])
  refine wpList_val (v := ?_) rfl ?_ ?_
  rotate_left
  · (go_simp; (try (first | with_reducible rfl | (constructor <;> with_reducible rfl))))
  (try simp only [Act.put, List.setIfInBounds_toArray, List.set_cons_zero, List.set_cons_succ])
  refine wpList_val (v := ?_) (by rfl) ?_ ?_
  rotate_left
  · (go_simp; (try (first | with_reducible rfl | (constructor <;> with_reducible rfl))))
  (try simp only [Act.put, List.setIfInBounds_toArray, List.set_cons_zero, List.set_cons_succ])
  refine wpList_val (v := ?_) (by rfl) ?_ ?_
  rotate_left
  · (go_simp; (try (first | with_reducible rfl | (constructor <;> with_reducible rfl))))
  (try simp only [Act.put, List.setIfInBounds_toArray, List.set_cons_zero, List.set_cons_succ])
  refine wpList_val (v := ?_) (by rfl) ?_ ?_
  rotate_left
  · (go_simp; rw [d3.out])
  (try simp only [Act.put, List.setIfInBounds_toArray, List.set_cons_zero, List.set_cons_succ])
  refine wpList_val (v := ?_) rfl ?_ ?_
  rotate_left
  · (go_simp; (try (first | with_reducible rfl | (constructor <;> with_reducible rfl))))
  (try simp only [Act.put, List.setIfInBounds_toArray, List.set_cons_zero, List.set_cons_succ])
  refine wpList_val (v := ?_) rfl ?_ ?_
  rotate_left
  · (go_simp; (try (first | with_reducible rfl | (constructor <;> with_reducible rfl))))
  (try simp only [Act.put, List.setIfInBounds_toArray, List.set_cons_zero, List.set_cons_succ])
  refine wpList_val (v := ?_) (by rfl) ?_ ?_
  rotate_left
  · (go_simp; (try (first | with_reducible rfl | (constructor <;> with_reducible rfl))))
  (try simp only [Act.put, List.setIfInBounds_toArray, List.set_cons_zero, List.set_cons_succ])
  refine wpList_val (v := ?_) (by rfl) ?_ ?_
  rotate_left
  · (go_simp; (try (first | with_reducible rfl | (constructor <;> with_reducible rfl))))
  (try simp only [Act.put, List.setIfInBounds_toArray, List.set_cons_zero, List.set_cons_succ])
  refine wpList_val (v := ?_) (by rfl) ?_ ?_
  rotate_left
  · (go_simp; rw [s5.out])
  (try simp only [Act.put, List.setIfInBounds_toArray, List.set_cons_zero, List.set_cons_succ])
  refine wpList_val (v := ?_) (by rfl) ?_ ?_
  rotate_left
  · (go_simp; rw [d4.out])
  (try simp only [Act.put, List.setIfInBounds_toArray, List.set_cons_zero, List.set_cons_succ])
  refine wpList_val (v := ?_) rfl ?_ ?_
  rotate_left
  · (go_simp; (try (first | with_reducible rfl | (constructor <;> with_reducible rfl))))
  (try simp only [Act.put, List.setIfInBounds_toArray, List.set_cons_zero, List.set_cons_succ])
  refine wpList_val (v := ?_) rfl ?_ ?_
  rotate_left
  · (go_simp; (try (first | with_reducible rfl | (constructor <;> with_reducible rfl))))
  (try simp only [Act.put, List.setIfInBounds_toArray, List.set_cons_zero, List.set_cons_succ])
  refine wpList_val (v := ?_) (by rfl) ?_ ?_
  rotate_left
  · (go_simp; (try (first | with_reducible rfl | (constructor <;> with_reducible rfl))))
  (try simp only [Act.put, List.setIfInBounds_toArray, List.set_cons_zero, List.set_cons_succ])
  refine wpList_val (v := ?_) (by rfl) ?_ ?_
  rotate_left
  · (go_simp; (try (first | with_reducible rfl | (constructor <;> with_reducible rfl))))
  (try simp only [Act.put, List.setIfInBounds_toArray, List.set_cons_zero, List.set_cons_succ])
  refine wpList_val (v := ?_) (by rfl) ?_ ?_
  rotate_left
  · (go_simp; rw [d5.out])
  (try simp only [Act.put, List.setIfInBounds_toArray, List.set_cons_zero, List.set_cons_succ])
  refine wpList_val (v := ?_) rfl ?_ ?_
  rotate_left
  · (go_simp; (try (first | with_reducible rfl | (constructor <;> with_reducible rfl))))
  (try simp only [Act.put, List.setIfInBounds_toArray, List.set_cons_zero, List.set_cons_succ])
  refine wpList_val (v := ?_) rfl ?_ ?_
  rotate_left
  · (go_simp; (try (first | with_reducible rfl | (constructor <;> with_reducible rfl))))
  (try simp only [Act.put, List.setIfInBounds_toArray, List.set_cons_zero, List.set_cons_succ])
  refine wpList_val (v := ?_) (by rfl) ?_ ?_
  rotate_left
  · (go_simp; (try (first | with_reducible rfl | (constructor <;> with_reducible rfl))))
  (try simp only [Act.put, List.setIfInBounds_toArray, List.set_cons_zero, List.set_cons_succ])
  refine wpList_val (v := ?_) (by rfl) ?_ ?_
  rotate_left
  · (go_simp; (try (first | with_reducible rfl | (constructor <;> with_reducible rfl))))
  (try simp only [Act.put, List.setIfInBounds_toArray, List.set_cons_zero, List.set_cons_succ])
  refine wpList_val (v := ?_) (by rfl) ?_ ?_
  rotate_left
  · (go_simp; rw [s5.out])
  (try simp only [Act.put, List.setIfInBounds_toArray, List.set_cons_zero, List.set_cons_succ])
  refine wpList_val (v := ?_) (by rfl) ?_ ?_
  rotate_left
  · (go_simp; rw [d6.out])
  (try simp only [Act.put, List.setIfInBounds_toArray, List.set_cons_zero, List.set_cons_succ])
  refine wpList_val (v := ?_) rfl ?_ ?_
  rotate_left
  · (go_simp; (try (first | with_reducible rfl | (constructor <;> with_reducible rfl))))
  (try simp only [Act.put, List.setIfInBounds_toArray, List.set_cons_zero, List.set_cons_succ])
  refine wpList_val (v := ?_) rfl ?_ ?_
  rotate_left
  · (go_simp; (try (first | with_reducible rfl | (constructor <;> with_reducible rfl))))
  (try simp only [Act.put, List.setIfInBounds_toArray, List.set_cons_zero, List.set_cons_succ])
  refine wpList_val (v := ?_) (by rfl) ?_ ?_
  rotate_left
  · (go_simp; (try (first | with_reducible rfl | (constructor <;> with_reducible rfl))))
  (try simp only [Act.put, List.setIfInBounds_toArray, List.set_cons_zero, List.set_cons_succ])
  refine wpList_val (v := ?_) (by rfl) ?_ ?_
  rotate_left
  · (go_simp; (try (first | with_reducible rfl | (constructor <;> with_reducible rfl))))
  (try simp only [Act.put, List.setIfInBounds_toArray, List.set_cons_zero, List.set_cons_succ])
  refine wpList_val (v := ?_) (by rfl) ?_ ?_
  rotate_left
  · (go_simp; (try (first | with_reducible rfl | (constructor <;> with_reducible rfl))))
  (try simp only [Act.put, List.setIfInBounds_toArray, List.set_cons_zero, List.set_cons_succ])
  refine wpList_val (v := ?_) (by rfl) ?_ ?_
  rotate_left
  · (go_simp; (try (first | with_reducible rfl | (constructor <;> with_reducible rfl))))
  (try simp only [Act.put, List.setIfInBounds_toArray, List.set_cons_zero, List.set_cons_succ])
  refine wpList_val (v := ?_) (by rfl) ?_ ?_
  rotate_left
  · (go_simp; (try (first | with_reducible rfl | (constructor <;> with_reducible rfl))))
  (try simp only [Act.put, List.setIfInBounds_toArray, List.set_cons_zero, List.set_cons_succ])
  refine wpList_val (v := ?_) rfl ?_ ?_
  rotate_left
  · (go_simp; (try (first | with_reducible rfl | (constructor <;> with_reducible rfl))))
  (try simp only [Act.put, List.setIfInBounds_toArray, List.set_cons_zero, List.set_cons_succ])
  refine wpList_val (v := ?_) rfl ?_ ?_
  rotate_left
  · (go_simp; (try (first | with_reducible rfl | (constructor <;> with_reducible rfl))))
  (try simp only [Act.put, List.setIfInBounds_toArray, List.set_cons_zero, List.set_cons_succ])
  refine wpList_nil ?_
  go_wp2_with fail
  go_ret
  exact ⟨rfl, A17.out⟩
theorem moves_walk (a b t : Int) (w : World) :
    Calls Try.prog 5 #[.int .i64 a, .int .i64 b, .int .i64 t] w fun e w' => e = .returned (.bool true) ∧ Below w.heap.size w w' := by
  by_cases h : a < 1073741824 ∨ 281474976710656 < a ∨ b < 1073741824 ∨ 281474976710656 < b ∨ t < 0 ∨ 1073741824 < t
  · exact mv_noop a b t w h
  · exact mv_yes a b t w (by omega) (by omega) (by omega)
end Go.Proofs.Ytomcniampdpnhaa
