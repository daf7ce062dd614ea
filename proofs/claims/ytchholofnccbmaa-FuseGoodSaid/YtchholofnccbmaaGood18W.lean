/- The walk of FuseGood. -/
import Derived.Test.YtchholofnccbmaaQ19
namespace Go.Proofs.Ytchholofnccbmaa
open Go.RowKit
set_option maxRecDepth 100000
structure GdR (bc kb vb tb ob : Nat) (K V A Q O : Nat → Int) (T : Bool) (Y X : Int) (w wr : World) : Prop where
  below : Below w.heap.size w wr
  k : Blk wr kb 27 24 K
  v : Blk wr vb 30 300 V
  a : Blk wr tb 27 24 A
  q : Blk wr (tb + 1) 30 300 Q
  r : Res wr (tb + 1 + 1) T Y X
  o : Blk wr ob 47 27 O
theorem GdR.down {bc kb vb tb ob : Nat} {K V A Q O : Nat → Int} {T : Bool} {Y X : Int} {w wr w' : World} (s : GdR bc kb vb tb ob K V A Q O T Y X w wr) (u : Below wr.heap.size wr w') : GdR bc kb vb tb ob K V A Q O T Y X w w' :=
  ⟨Below.after s.below u, s.k.below u, s.v.below u, s.a.below u, s.q.below u, s.r.below u, s.o.below u⟩
theorem GdR.drews {bc kb vb tb ob : Nat} {K V A Q O : Nat → Int} {T : Bool} {Y X : Int} {w wr : World} (s : GdR bc kb vb tb ob K V A Q O T Y X w wr) (n : Nat) : GdR bc kb vb tb ob K V A Q O T Y X w (wr.drewN n) :=
  ⟨below_drewN s.below n, s.k, s.v, s.a, s.q, s.r, s.o⟩
/-- The plain law. -/
theorem good18_law (S P O : Nat → Int) :
    goodB (foSt (keepF S) (condF P) O) = true ∧ condH (foPt (condF P) O) = false ∧ 1 ≤ foS (condF P) O ∧
    (foL (condF P) O = false → eqB 24 (foSt (keepF S) (condF P) O) (keepF S) = true ∧ covB (foPt (condF P) O) (condF P) = true) ∧
    (∀ i, i < 24 → foPt (condF P) O (276 + i) ≤ condF P (276 + i)) :=
  ⟨fost_good _ _ _, fopt_good _ _, fos_pos _ _, fun h => ⟨eqB_iff.2 (fost_left h (keep_good S)), covB_iff.2 (fopt_left h (condH_cond P))⟩, fopt_less (condH_cond P)⟩
set_option maxHeartbeats 8000000 in
theorem good18_walk (S P O : Nat → Int) (w : World) (hO : -9223372036854775808 ≤ O 26 ∧ O 26 ≤ 9223372036854775807) :
    Calls Try.prog 6 #[.agg (arrv 24 S), .agg (arrv 300 P), .agg (arrv 27 O)] w fun e w' => e = .returned (.bool true) ∧ Below w.heap.size w w' := by
  go_enter Try.func6, Try.ntmps6
  obtain ⟨W0, hW0⟩ : ∃ x, ((w.alloc (.cells (arrv 24 S) 27)).alloc (.cells (arrv 300 P) 30)).alloc (.cells (arrv 27 O) 47) = x := ⟨_, rfl⟩
  have S0 := Lib.hid (show Blk W0 w.heap.size 27 24 S by rw [← hW0]; exact ((Blk.new w _ _ _).alloc _).alloc _)
  have P0 := Lib.hid (show Blk W0 (w.heap.size + 1) 30 300 P by rw [← hW0]; exact (Blk.new1 w _ _ _ _).alloc _)
  have O0 := Lib.hid (show Blk W0 (w.heap.size + 1 + 1) 47 27 O by rw [← hW0]; exact blk_new2 w _ _ _ _ _)
  have B0 := Lib.hid (show Below w.heap.size w W0 by rw [← hW0]; (repeat (first | with_reducible exact Below.refl _ _ | with_reducible apply Below.drew | (with_reducible refine below_drewN ?_ _) | (with_reducible refine Below.alloc ?_ (by (try simp) <;> omega) _) | (with_reducible refine Below.setCell ?_ (by (try simp) <;> omega) _))))
  have HW := Lib.hid hW0
  clear hW0
  have hO := Lib.hid hO
  go_upto_region 1 with fail
  rw [HW.out]
  clear HW
  go_upto_region 3 with (go_at_call 9; (refine (awake18_any _).mono ?_); rintro e w1 ⟨rfl, hb1⟩; have S1 := Lib.hid (S0.out.below hb1); have P1 := Lib.hid (P0.out.below hb1); have O1 := Lib.hid (O0.out.below hb1); have B1 := Lib.hid (Below.after B0.out hb1); clear hb1)
  obtain ⟨bc, hbc⟩ : ∃ x, w1.heap.size = x := ⟨_, rfl⟩
  have hbo : w.heap.size + 1 + 1 < bc := by rw [← hbc]; exact O1.out.lt
  have F2 := Lib.hid (show Flg (w1.alloc (.cells #[.bool false] 25)) bc false by rw [← hbc]; exact Flg.new w1 false)
  have S2 := S1.out.alloc (.cells #[.bool false] 25)
  have P2 := Lib.hid (P1.out.alloc (.cells #[.bool false] 25))
  have O2 := Lib.hid (O1.out.alloc (.cells #[.bool false] 25))
  have B2 := Lib.hid (B1.out.alloc B1.out.size (.cells #[.bool false] 25))
  have HBC := Lib.hid hbc
  clear S0 P0 O0 B0 S1 P1 O1 B1 hbc
  go_upto_region 4 with fail
  (try rw [HBC.out])
  generalize w1.alloc (.cells #[.bool false] 25) = W2 at *
  clear HBC
  have K2 := Lib.hid (keep_any ⟨bc, 0, none⟩ false S W2 F2.out.cell F2.out.free)
  go_upto_region 5 with (first | (refine wpList_load_row rfl 27 _ rfl (w.heap.size) rfl 27 _ (0, 0) _ (S2) Try.underlying27 rfl (ist.trans (by rw [arrv_size])) ?_) | (go_at_call 17; (refine K2.out.mono ?_); rintro e w3 ⟨rfl, hu3⟩; have F3 := Lib.hid (F2.out.hit hu3); have P3 := Lib.hid (P2.out.upd hu3 (by show w.heap.size + 1 ≠ bc; omega)); have O3 := Lib.hid (O2.out.upd hu3 (by show w.heap.size + 1 + 1 ≠ bc; omega)); have B3 := Lib.hid (own_upd B2.out (by show w.heap.size ≤ bc; omega) hu3); have R3 : Blk (w3.alloc (.cells #[.int .i64 0, .int .i64 0, .int .i64 0, .int .i64 0, .int .i64 0, .int .i64 0, .int .i64 0, .int .i64 0, .int .i64 0, .int .i64 0, .int .i64 0, .int .i64 0, .int .i64 0, .int .i64 0, .int .i64 0, .int .i64 0, .int .i64 0, .int .i64 0, .int .i64 0, .int .i64 0, .int .i64 0, .int .i64 0, .int .i64 0, .int .i64 0] 27)) w3.heap.size 27 24 (fun _ => 0) := (by rw [zvec24]; exact Blk.new _ _ 24 _); clear hu3) | (refine wpList_store_row rfl 27 _ _ rfl (w3.heap.size) _ rfl rfl 27 _ (R3) (ist.trans (by rw [arrv_size])) (by rw [arrv_size, arrv_size]) (oneCell_arrv _ _) ?_))
  obtain ⟨w4, hw4⟩ : ∃ x, x = (w3.alloc (.cells #[.int .i64 0, .int .i64 0, .int .i64 0, .int .i64 0, .int .i64 0, .int .i64 0, .int .i64 0, .int .i64 0, .int .i64 0, .int .i64 0, .int .i64 0, .int .i64 0, .int .i64 0, .int .i64 0, .int .i64 0, .int .i64 0, .int .i64 0, .int .i64 0, .int .i64 0, .int .i64 0, .int .i64 0, .int .i64 0, .int .i64 0, .int .i64 0] 27)).setRow w3.heap.size (arrv 24 (keepF S)) := ⟨_, rfl⟩
  rw [← hw4]
  obtain ⟨K4, MB4⟩ := Blk.made (T := 27) zvec24 (keepF S) hw4
  have F4 := Lib.hid (F3.out.below MB4)
  have P4 := P3.out.below MB4
  have O4 := Lib.hid (O3.out.below MB4)
  have B4 := Lib.hid (Below.after B3.out MB4)
  have hkb : bc < w3.heap.size := F3.out.lt
  obtain ⟨kb, hkb2⟩ : ∃ x, w3.heap.size = x := ⟨_, rfl⟩
  rw [hkb2] at K4 hkb ⊢
  have K4 := Lib.hid K4
  clear hw4 hkb2 R3 F2 S2 P2 O2 B2 K2 F3 P3 O3 B3 MB4
  have C4 := Lib.hid (cond_any ⟨bc, 0, none⟩ _ P w4 F4.out.cell F4.out.free)
  go_upto_region 6 with (first | (refine wpList_load_row rfl 30 _ rfl (w.heap.size + 1) rfl 30 _ (0, 0) _ (P4) Try.underlying30 rfl (icov.trans (by rw [arrv_size])) ?_) | (go_at_call 15; (refine C4.out.mono ?_); rintro e w5 ⟨rfl, hu5⟩; have F5 := Lib.hid (F4.out.hit hu5); have K5 := Lib.hid (K4.out.upd hu5 (by show kb ≠ bc; omega)); have O5 := Lib.hid (O4.out.upd hu5 (by show w.heap.size + 1 + 1 ≠ bc; omega)); have B5 := Lib.hid (own_upd B4.out (by show w.heap.size ≤ bc; omega) hu5); have R5 : Blk (w5.alloc (.cells Try.zeroCells30 30)) w5.heap.size 30 300 (fun _ => 0) := (by rw [zcov]; exact Blk.new _ _ _ _); clear hu5) | (refine wpList_store_row rfl 30 _ _ rfl (w5.heap.size) _ rfl rfl 30 _ (R5) (icov.trans (by rw [arrv_size])) (by rw [arrv_size, arrv_size]) (oneCell_arrv _ _) ?_))
  obtain ⟨w6, hw6⟩ : ∃ x, x = ((w5.alloc (.cells Try.zeroCells30 30)).setRow w5.heap.size (arrv 300 (condF P))) := ⟨_, rfl⟩
  rw [← hw6]
  obtain ⟨V6, MB6⟩ := Blk.made zcov (condF P) hw6
  have F6 := Lib.hid (F5.out.below MB6)
  have K6 := K5.out.below MB6
  have O6 := O5.out.below MB6
  have B6 := Lib.hid (Below.after B5.out MB6)
  have hvb : bc < w5.heap.size := F5.out.lt
  obtain ⟨vb, hvb2⟩ : ∃ x, w5.heap.size = x := ⟨_, rfl⟩
  rw [hvb2] at V6 hvb ⊢
  clear hw6 hvb2 R5 P4 C4 F4 K4 O4 B4 F5 K5 O5 B5 MB6
  have LL := Lib.hid (good18_law S P O)
  have ON := Lib.hid (fuone_any ⟨bc, 0, none⟩ _ (keepF S) (condF P) O w6 F6.out.cell F6.out.free hO.out)
  have HT := Lib.hid (show foL (condF P) O = likB (foY O) (foS (condF P) O) (O 26) from rfl)
  obtain ⟨K, hK0⟩ : ∃ x, keepF S = x := ⟨_, rfl⟩
  obtain ⟨V, hV⟩ : ∃ x, condF P = x := ⟨_, rfl⟩
  rw [hK0, hV] at ON LL
  rw [hV] at HT V6 ⊢
  rw [hK0] at K6 ⊢
  obtain ⟨A, hA⟩ : ∃ x, foSt K V O = x := ⟨_, rfl⟩
  obtain ⟨Q, hQ⟩ : ∃ x, foPt V O = x := ⟨_, rfl⟩
  obtain ⟨T, hT⟩ : ∃ x, foL V O = x := ⟨_, rfl⟩
  obtain ⟨Y, hY⟩ : ∃ x, foY O = x := ⟨_, rfl⟩
  obtain ⟨X, hX⟩ : ∃ x, foS V O = x := ⟨_, rfl⟩
  rw [hA, hQ, hT, hY, hX] at ON
  rw [hA, hQ, hT, hX] at LL
  rw [hT, hY, hX] at HT
  clear hK0 hV hA hQ hT hY hX
  refine wp_region_lit ?_
  refine wpList_val (v := ?_) rfl ?_ ?_
  rotate_left
  · (go_simp; (try (first | with_reducible rfl | (constructor <;> with_reducible rfl))))
  (try simp only [Act.put, List.setIfInBounds_toArray, List.set_cons_zero, List.set_cons_succ])
  refine wpList_val (v := ?_) rfl ?_ ?_
  rotate_left
  · refine Eq.trans (run_load_row 27 (.tmp 8) (by rfl) (kb) (by rfl) _ _ _ _ (K6) Try.underlying27 rfl (ist.trans (by rw [arrv_size]))) ?_; with_reducible rfl
  (try simp only [Act.put, List.setIfInBounds_toArray, List.set_cons_zero, List.set_cons_succ])
  refine wpList_val (v := ?_) rfl ?_ ?_
  rotate_left
  · refine Eq.trans (run_load_row 30 (.tmp 9) (by rfl) (vb) (by rfl) _ _ _ _ (V6) Try.underlying30 rfl (icov.trans (by rw [arrv_size]))) ?_; with_reducible rfl
  (try simp only [Act.put, List.setIfInBounds_toArray, List.set_cons_zero, List.set_cons_succ])
  refine wpList_val (v := ?_) rfl ?_ ?_
  rotate_left
  · refine Eq.trans (run_load_row 47 (.tmp 5) (by rfl) (w.heap.size + 1 + 1) (by rfl) _ _ _ _ (O6) Try.underlying47 rfl (iob.trans (by rw [arrv_size]))) ?_; with_reducible rfl
  (try simp only [Act.put, List.setIfInBounds_toArray, List.set_cons_zero, List.set_cons_succ])
  refine wpList_step (fun K hK => ?_)
  go_simp
  (refine ON.out.mono ?_); rintro e w8 ⟨rfl, hu8⟩; have K8 := Lib.hid (K6.upd hu8 (by show kb ≠ bc; omega)); have V8 := Lib.hid (V6.upd hu8 (by show vb ≠ bc; omega)); have O8 := Lib.hid (O6.upd hu8 (by show w.heap.size + 1 + 1 ≠ bc; omega)); have B8 := Lib.hid (own_upd B6.out (by show w.heap.size ≤ bc; omega) hu8); (have R8 := Lib.hid (aw_t8 w8); have R9 := Lib.hid (aw_q8 w8 (A)); have RA := Lib.hid (aw_r8 w8 (A) (Q)); (simp only [res3])); clear hu8
  (try dsimp only)
  (try simp only [Act.put, List.setIfInBounds_toArray, List.set_cons_zero, List.set_cons_succ])
  refine hK _ _ ?_
  clear hK K
  refine wpList_val (v := ?_) rfl ?_ ?_
  rotate_left
  · (go_simp; (try (first | with_reducible rfl | (constructor <;> with_reducible rfl))))
  (try simp only [Act.put, List.setIfInBounds_toArray, List.set_cons_zero, List.set_cons_succ])
  refine wpList_val (v := ?_) rfl ?_ ?_
  rotate_left
  · (go_simp; (try (first | with_reducible rfl | (constructor <;> with_reducible rfl))))
  (try simp only [Act.put, List.setIfInBounds_toArray, List.set_cons_zero, List.set_cons_succ])
  refine wpList_val (v := ?_) rfl ?_ ?_
  rotate_left
  · (go_simp; (try (first | with_reducible rfl | (constructor <;> with_reducible rfl))))
  (try simp only [Act.put, List.setIfInBounds_toArray, List.set_cons_zero, List.set_cons_succ])
  refine wpList_val (v := ?_) rfl ?_ ?_
  rotate_left
  · (go_simp; (try (first | with_reducible rfl | (constructor <;> with_reducible rfl))))
  (try simp only [Act.put, List.setIfInBounds_toArray, List.set_cons_zero, List.set_cons_succ])
  refine wpList_act (v := ?_) (w' := ?_) rfl ?_ ?_
  rotate_left 2
  · (go_simp; (try (first | with_reducible rfl | (constructor <;> with_reducible rfl))))
  (try simp only [Act.put, List.setIfInBounds_toArray, List.set_cons_zero, List.set_cons_succ])
  refine wpList_act (v := ?_) (w' := ?_) rfl ?_ ?_
  rotate_left 2
  · (go_simp; (try (first | with_reducible rfl | (constructor <;> with_reducible rfl))))
  (try simp only [Act.put, List.setIfInBounds_toArray, List.set_cons_zero, List.set_cons_succ])
  refine wpList_act (v := ?_) (w' := ?_) rfl ?_ ?_
  rotate_left 2
  · (go_simp; (try (first | with_reducible rfl | (constructor <;> with_reducible rfl))))
  (try simp only [Act.put, List.setIfInBounds_toArray, List.set_cons_zero, List.set_cons_succ])
  refine wpList_done (w' := ?_) rfl ?_ ?_
  rotate_left
  · refine Eq.trans (run_store_row 27 (.tmp 10) (.tmp 30) (by rfl) (w8.heap.size) (by rfl) (by rfl) (R8.out) (ist.trans rfl)) ?_; with_reducible rfl
  (try simp only [Act.put, List.setIfInBounds_toArray, List.set_cons_zero, List.set_cons_succ])
  refine wpList_done (w' := ?_) rfl ?_ ?_
  rotate_left
  · refine Eq.trans (run_store_row 30 (.tmp 11) (.tmp 31) (by rfl) (w8.heap.size + 1) (by rfl) (by rfl) (R9.out) (icov.trans rfl)) ?_; with_reducible rfl
  (try simp only [Act.put, List.setIfInBounds_toArray, List.set_cons_zero, List.set_cons_succ])
  refine wpList_done (w' := ?_) rfl ?_ ?_
  rotate_left
  · (obtain ⟨⟨v0, v1, v2⟩, y0, y1, y2⟩ := RA.out.c; go_simp; (try with_reducible rfl))
  (try simp only [Act.put, List.setIfInBounds_toArray, List.set_cons_zero, List.set_cons_succ])
  refine wpList_nil ?_
  obtain ⟨w9, hw9⟩ : ∃ x, x = ((((((((w8.alloc (.cells #[.int .i64 0, .int .i64 0, .int .i64 0, .int .i64 0, .int .i64 0, .int .i64 0, .int .i64 0, .int .i64 0, .int .i64 0, .int .i64 0, .int .i64 0, .int .i64 0, .int .i64 0, .int .i64 0, .int .i64 0, .int .i64 0, .int .i64 0, .int .i64 0, .int .i64 0, .int .i64 0, .int .i64 0, .int .i64 0, .int .i64 0, .int .i64 0] 27)).alloc (.cells Try.zeroCells30 30)).alloc (.cells #[.bool false, .int .i64 0, .int .i64 0] 43)).setRow w8.heap.size (arrv 24 (A))).setRow (w8.heap.size + 1) (arrv 300 (Q))).setCell ⟨w8.heap.size + 1 + 1, 0, none⟩ (.bool T)).setCell ⟨w8.heap.size + 1 + 1, 1, none⟩ (.int .i64 Y)).setCell ⟨w8.heap.size + 1 + 1, 2, none⟩ (.int .i64 X)) := ⟨_, rfl⟩; rw [← hw9]; obtain ⟨M0, M1, M2, MB⟩ := one_made _ _ _ _ _ hw9; clear hw9 R8 R9 RA
  obtain ⟨tb, htb⟩ : ∃ x, w8.heap.size = x := ⟨_, rfl⟩
  rw [htb] at M0 M1 M2 ⊢
  have G9 : Hid (GdR bc kb vb tb (w.heap.size + 1 + 1) K V A Q O T Y X w w9) := Lib.hid ⟨Below.after B8.out MB, K8.out.below MB, V8.out.below MB, M0, M1, M2, O8.out.below MB⟩
  clear htb K6 V6 O6 B6 F6 ON K8 V8 O8 B8 M0 M1 M2 MB
  obtain ⟨l1, l2, l3, l4, l5⟩ := LL.out
  have l4 := Lib.hid l4
  have l5 := Lib.hid l5
  have L1 := Lib.hid l1
  have L2 := Lib.hid l2
  have e3 : decide (X < 1) = false := by simp; omega
  clear l1 l2 l3 LL
  have G10 := G9.out.a
  go_upto_region 7 with fail
  refine wp_region_lit ?_
  refine wpList_val (v := ?_) rfl ?_ ?_
  rotate_left
  · refine Eq.trans (run_load_row 27 (.tmp 10) (by rfl) (tb) (by rfl) _ _ _ _ (G10) Try.underlying27 rfl (ist.trans (by rw [arrv_size]))) ?_; with_reducible rfl
  (try simp only [Act.put, List.setIfInBounds_toArray, List.set_cons_zero, List.set_cons_succ])
  refine wpList_step (fun K hK => ?_)
  go_simp
  (refine (sgood_any A _).mono ?_); rintro e w10 ⟨rfl, hb10⟩; (rw [L1.out]); have G11 := Lib.hid (G9.out.down hb10); have G12 := G11.out.q; clear hb10
  (try dsimp only)
  (try simp only [Act.put, List.setIfInBounds_toArray, List.set_cons_zero, List.set_cons_succ])
  refine hK _ _ ?_
  clear hK K
  refine wpList_val (v := ?_) rfl ?_ ?_
  rotate_left
  · (go_simp; (try (first | with_reducible rfl | (constructor <;> with_reducible rfl))))
  (try simp only [Act.put, List.setIfInBounds_toArray, List.set_cons_zero, List.set_cons_succ])
  refine wpList_val (v := ?_) rfl ?_ ?_
  rotate_left
  · (go_simp; (try (first | with_reducible rfl | (constructor <;> with_reducible rfl))))
  (try simp only [Act.put, List.setIfInBounds_toArray, List.set_cons_zero, List.set_cons_succ])
  first | (refine wpList_val (v := ?_) (by rfl) ?_ ?_; rotate_left; focus (refine Eq.trans (run_load_row 30 (.tmp 11) (by rfl) (tb + 1) (by rfl) _ _ _ _ (G12) Try.underlying30 rfl (icov.trans (by rw [arrv_size]))) ?_; with_reducible rfl)) | refine wpList_skip (by rfl) ?_
  (try simp only [Act.put, List.setIfInBounds_toArray, List.set_cons_zero, List.set_cons_succ])
  refine wpList_step (fun K hK => ?_)
  go_simp
  (refine (good_any Q _).mono ?_); rintro e w11 ⟨rfl, hb11⟩; (rw [L2.out]); have G13 := Lib.hid (G11.out.down hb11); obtain ⟨⟨c0, c1, c2⟩, _⟩ := G13.out.r.c; clear hb11
  (try dsimp only)
  (try simp only [Act.put, List.setIfInBounds_toArray, List.set_cons_zero, List.set_cons_succ])
  refine hK _ _ ?_
  clear hK K
  first | (refine wpList_val (v := ?_) (by rfl) ?_ ?_; rotate_left; focus ((go_simp; (try (first | with_reducible rfl | (constructor <;> with_reducible rfl)))))) | refine wpList_skip (by rfl) ?_
  (try simp only [Act.put, List.setIfInBounds_toArray, List.set_cons_zero, List.set_cons_succ])
  refine wpList_val (v := ?_) rfl ?_ ?_
  rotate_left
  · (go_simp; (try (first | with_reducible rfl | (constructor <;> with_reducible rfl))))
  (try simp only [Act.put, List.setIfInBounds_toArray, List.set_cons_zero, List.set_cons_succ])
  refine wpList_val (v := ?_) rfl ?_ ?_
  rotate_left
  · (go_simp; (try (first | with_reducible rfl | (constructor <;> with_reducible rfl))))
  (try simp only [Act.put, List.setIfInBounds_toArray, List.set_cons_zero, List.set_cons_succ])
  first | (refine wpList_val (v := ?_) (by rfl) ?_ ?_; rotate_left; focus ((go_simp; (try (first | with_reducible rfl | (constructor <;> with_reducible rfl)))))) | refine wpList_skip (by rfl) ?_
  (try simp only [Act.put, List.setIfInBounds_toArray, List.set_cons_zero, List.set_cons_succ])
  first | (refine wpList_val (v := ?_) (by rfl) ?_ ?_; rotate_left; focus ((go_simp; (try (first | with_reducible rfl | (constructor <;> with_reducible rfl)))))) | refine wpList_skip (by rfl) ?_
  (try simp only [Act.put, List.setIfInBounds_toArray, List.set_cons_zero, List.set_cons_succ])
  first | (refine wpList_val (v := ?_) (by rfl) ?_ ?_; rotate_left; focus ((go_simp; (try simp only [e3]); (try with_reducible rfl)))) | refine wpList_skip (by rfl) ?_
  (try simp only [Act.put, List.setIfInBounds_toArray, List.set_cons_zero, List.set_cons_succ])
  refine wpList_val (v := ?_) rfl ?_ ?_
  rotate_left
  · (go_simp; (try (first | with_reducible rfl | (constructor <;> with_reducible rfl))))
  (try simp only [Act.put, List.setIfInBounds_toArray, List.set_cons_zero, List.set_cons_succ])
  refine wpList_nil ?_
  clear G9 G10 G11 G12 L1 L2
  cases T with
  | false =>
    obtain ⟨m1, m2⟩ := l4.out rfl
    have E1 := Lib.hid m1
    have E2 := Lib.hid m2
    clear m1 m2 l4 l5
    have GA := G13.out.a
    have GK := G13.out.k
    have GQ := G13.out.q
    have GV := G13.out.v
    go_upto_region 10 with fail
    refine wp_region_lit ?_
    refine wpList_val (v := ?_) rfl ?_ ?_
    rotate_left
    · refine Eq.trans (run_load_row 27 (.tmp 10) (by rfl) (tb) (by rfl) _ _ _ _ (GA) Try.underlying27 rfl (ist.trans (by rw [arrv_size]))) ?_; with_reducible rfl
    (try simp only [Act.put, List.setIfInBounds_toArray, List.set_cons_zero, List.set_cons_succ])
    refine wpList_val (v := ?_) rfl ?_ ?_
    rotate_left
    · refine Eq.trans (run_load_row 27 (.tmp 8) (by rfl) (kb) (by rfl) _ _ _ _ (GK) Try.underlying27 rfl (ist.trans (by rw [arrv_size]))) ?_; with_reducible rfl
    (try simp only [Act.put, List.setIfInBounds_toArray, List.set_cons_zero, List.set_cons_succ])
    refine wpList_val (v := ?_) rfl ?_ ?_
    rotate_left
    · refine Eq.trans (run_op_eqlVec Try.underlying27 (by kernel_rfl) (.tmp 49) (.tmp 50) (by rfl) (by rfl) (by rfl) E1.out) ?_; with_reducible rfl
    (try simp only [Act.put, List.setIfInBounds_toArray, List.set_cons_zero, List.set_cons_succ])
    refine wpList_val (v := ?_) rfl ?_ ?_
    rotate_left
    · (go_simp; (try (first | with_reducible rfl | (constructor <;> with_reducible rfl))))
    (try simp only [Act.put, List.setIfInBounds_toArray, List.set_cons_zero, List.set_cons_succ])
    first | (refine wpList_val (v := ?_) (by rfl) ?_ ?_; rotate_left; focus (refine Eq.trans (run_load_row 30 (.tmp 11) (by rfl) (tb + 1) (by rfl) _ _ _ _ (GQ) Try.underlying30 rfl (icov.trans (by rw [arrv_size]))) ?_; with_reducible rfl)) | refine wpList_skip (by rfl) ?_
    (try simp only [Act.put, List.setIfInBounds_toArray, List.set_cons_zero, List.set_cons_succ])
    first | (refine wpList_val (v := ?_) (by rfl) ?_ ?_; rotate_left; focus (refine Eq.trans (run_load_row 30 (.tmp 9) (by rfl) (vb) (by rfl) _ _ _ _ (GV) Try.underlying30 rfl (icov.trans (by rw [arrv_size]))) ?_; with_reducible rfl)) | refine wpList_skip (by rfl) ?_
    (try simp only [Act.put, List.setIfInBounds_toArray, List.set_cons_zero, List.set_cons_succ])
    first | (refine wpList_val (v := ?_) (by rfl) ?_ ?_; rotate_left; focus (refine Eq.trans (run_op_eqlCov (.tmp 53) (.tmp 54) (by rfl) (by rfl) (by rfl) E2.out) ?_; with_reducible rfl)) | refine wpList_skip (by rfl) ?_
    (try simp only [Act.put, List.setIfInBounds_toArray, List.set_cons_zero, List.set_cons_succ])
    refine wpList_val (v := ?_) rfl ?_ ?_
    rotate_left
    · (go_simp; (try (first | with_reducible rfl | (constructor <;> with_reducible rfl))))
    (try simp only [Act.put, List.setIfInBounds_toArray, List.set_cons_zero, List.set_cons_succ])
    refine wpList_val (v := ?_) rfl ?_ ?_
    rotate_left
    · (go_simp; (try (first | with_reducible rfl | (constructor <;> with_reducible rfl))))
    (try simp only [Act.put, List.setIfInBounds_toArray, List.set_cons_zero, List.set_cons_succ])
    refine wpList_nil ?_
    go_wp2_with fail
    go_ret
    exact ⟨rfl, G13.out.below⟩
  | true =>
    go_upto_region 11 with fail
    clear c0 c1 c2
    go_wp2_with fail
    go_loopw [13] (fun i wr => ∃ k : Nat, k ≤ 24 ∧ i = .int .i64 k ∧ Hid (GdR bc kb vb tb (w.heap.size + 1 + 1) K V A Q O true Y X w wr)) (fun i _ => 24 - (intOf i).toNat)
    case atStart => exact ⟨0, by omega, rfl, G13⟩
    case round =>
      obtain ⟨k, hk, rfl, R⟩ := hrel
      by_cases hlt : k < 24
      · have d1 : decide ((k : Int) < 24) = true := by simp; omega
        have g1 := l5.out k hlt
        have m0 := R.out.q.cell (i := 276 + k) (by omega)
        have m1 := R.out.v.cell (i := 276 + k) (by omega)
        obtain ⟨QV, hQV⟩ : ∃ x, Q (276 + k) = x := ⟨_, rfl⟩
        obtain ⟨VV, hVV⟩ : ∃ x, V (276 + k) = x := ⟨_, rfl⟩
        rw [hQV] at m0 g1
        rw [hVV] at m1 g1
        have q1 : decide (VV < QV) = false := by simp; omega
        clear hQV hVV g1
        go_upto_region 14 with fail
        go_quiet (fail)
        (try clear hHeld)
        go_wp2_with fail
        go_roundw
        case rel => exact ⟨k + 1, by omega, by go_num, Lib.hid (R.out.drews _)⟩
        case measure => simp [intOf]; omega
      · have hk24 : k = 24 := by omega
        subst hk24
        obtain ⟨⟨c0, c1, c2⟩, _⟩ := R.out.r.c
        have c3 := R.out.o.cell (i := 26) (by omega)
        obtain ⟨GT, hGT⟩ : ∃ x, O 26 = x := ⟨_, rfl⟩
        rw [hGT] at c3 HT hO
        have d1 : decide (((24 : Nat) : Int) < 24) = false := by decide
        go_upto_region 17 with (go_at_call 13; (refine (likely_any _ _ _ _ hO.out.1 hO.out.2).mono ?_); rintro e w12 ⟨rfl, hb12⟩; (rw [← HT.out]); have BE := Lib.hid (Below.after R.out.below hb12); clear hb12)
        go_ret
        exact ⟨rfl, BE.out⟩
end Go.Proofs.Ytchholofnccbmaa
