/- The walk of FuseTwice. -/
import Derived.Test.YtchholofnccbmaaQ19
import Derived.Deep.QuietTactic
import Derived.BigQuiet
namespace Go.Proofs.Ytchholofnccbmaa
open Go.RowKit
set_option maxRecDepth 100000
open Go in
/-- An observation built of a row, its variance and its gate. -/
theorem run_build_obs3 {o : Oper} {ev : Operand → Value} {w : World} (x y z : Operand) (ho : o.op = .build 47 #[(0, x), (2, y), (3, z)]) {H : Nat → Int} {r g : Int} (hx : ev x = .agg (arrv 24 H)) (hy : ev y = .int .i64 r) (hz : ev z = .int .i64 g) :
    (execOp ev o).run Try.prog w = .ok (.value (.agg (arrv 27 (obF H 0 r g)))) w := by
  unfold execOp
  simp only [ho, List.map_toArray, List.map_cons, List.map_nil, hx, hy, hz]
  kernel_rfl
structure TwR (bc vb ta tb hb : Nat) (V A Q B Z H : Nat → Int) (X U : Int) (w wr : World) : Prop where
  below : Below w.heap.size w wr
  v : Blk wr vb 30 300 V
  a : Blk wr ta 27 24 A
  q : Blk wr (ta + 1) 30 300 Q
  r : Res wr (ta + 1 + 1) true 0 X
  b : Blk wr tb 27 24 B
  z : Blk wr (tb + 1) 30 300 Z
  t : Res wr (tb + 1 + 1) true 0 U
theorem TwR.drews {bc vb ta tb hb : Nat} {V A Q B Z H : Nat → Int} {X U : Int} {w wr : World} (s : TwR bc vb ta tb hb V A Q B Z H X U w wr) (n : Nat) : TwR bc vb ta tb hb V A Q B Z H X U w (wr.drewN n) :=
  ⟨below_drewN s.below n, s.v, s.a, s.q, s.r, s.b, s.z, s.t⟩
/-- The plain law. -/
theorem twice_law (S P H : Nat → Int) {r g : Int} (h1 : 1 ≤ g) (h2 : g ≤ 1000) :
    (foL (condF P) (obF H 0 r g) = true ∧ foY (obF H 0 r g) = 0) ∧
    foL (foPt (condF P) (obF H 0 r g)) (obF H 0 r g) = true ∧
    (∀ i, i < 24 → 4 ≤ i → foSt (foSt S (condF P) (obF H 0 r g)) (foPt (condF P) (obF H 0 r g)) (obF H 0 r g) i = foSt S (condF P) (obF H 0 r g) i) ∧
    (∀ i, i < 24 → foPt (condF P) (obF H 0 r g) (276 + i) ≤ condF P (276 + i)) ∧
    (∀ i, i < 24 → foPt (foPt (condF P) (obF H 0 r g)) (obF H 0 r g) (276 + i) ≤ foPt (condF P) (obF H 0 r g) (276 + i)) := by
  obtain ⟨a1, a2, _⟩ := fo_zero (P := condF P) (h := H) (r := r) h1 h2
  refine ⟨⟨a1, a2⟩, (fo_zero h1 h2).1, fun i hi h4 => ?_, fopt_less (condH_cond P), fopt_less (fopt_good _ _)⟩
  rw [fost_zero h1 h2 i hi h4]
  exact (keep_fix (fost_good _ _ _)).1 i hi
set_option maxHeartbeats 8000000 in
theorem twice_noop (S P H : Nat → Int) (r g : Int) (w : World) (h : g < 1 ∨ 1000 < g) :
    Calls Try.prog 5 #[.agg (arrv 24 S), .agg (arrv 300 P), .agg (arrv 24 H), .int .i64 r, .int .i64 g] w fun e w' => e = .returned (.bool true) ∧ Below w.heap.size w w' := by
  go_enter Try.func5, Try.ntmps5
  have B0 := Lib.hid (show Below w.heap.size w (((w.alloc (.cells (arrv 24 S) 27)).alloc (.cells (arrv 300 P) 30)).alloc (.cells (arrv 24 H) 40)) by (repeat (first | with_reducible exact Below.refl _ _ | with_reducible apply Below.drew | (with_reducible refine below_drewN ?_ _) | (with_reducible refine Below.alloc ?_ (by (try simp) <;> omega) _) | (with_reducible refine Below.setCell ?_ (by (try simp) <;> omega) _))))
  go_upto_region 5 with (go_at_call 9; (refine (awake18_any _).mono ?_); rintro e w1 ⟨rfl, hb1⟩; have B1 := Lib.hid (Below.after B0.out hb1); clear hb1)
  all_goals (first | (exfalso; omega) | (go_wp2_with fail; go_ret; exact ⟨rfl, B1.out⟩))
set_option maxHeartbeats 8000000 in
theorem twice_walk (S P H : Nat → Int) (r g : Int) (w : World) (hg1 : 1 ≤ g) (hg2 : g ≤ 1000) :
    Calls Try.prog 5 #[.agg (arrv 24 S), .agg (arrv 300 P), .agg (arrv 24 H), .int .i64 r, .int .i64 g] w fun e w' => e = .returned (.bool true) ∧ Below w.heap.size w w' := by
  have t1 : decide (g < 1) = false := by simp; omega
  have t2 : decide (1000 < g) = false := by simp; omega
  go_enter Try.func5, Try.ntmps5
  obtain ⟨W0, hW0⟩ : ∃ x, ((w.alloc (.cells (arrv 24 S) 27)).alloc (.cells (arrv 300 P) 30)).alloc (.cells (arrv 24 H) 40) = x := ⟨_, rfl⟩
  have S0 := Lib.hid (show Blk W0 w.heap.size 27 24 S by rw [← hW0]; exact ((Blk.new w _ _ _).alloc _).alloc _)
  have P0 := Lib.hid (show Blk W0 (w.heap.size + 1) 30 300 P by rw [← hW0]; exact (Blk.new1 w _ _ _ _).alloc _)
  have H0 := Lib.hid (show Blk W0 (w.heap.size + 1 + 1) 40 24 H by rw [← hW0]; exact blk_new2 w _ _ _ _ _)
  have B0 := Lib.hid (show Below w.heap.size w W0 by rw [← hW0]; (repeat (first | with_reducible exact Below.refl _ _ | with_reducible apply Below.drew | (with_reducible refine below_drewN ?_ _) | (with_reducible refine Below.alloc ?_ (by (try simp) <;> omega) _) | (with_reducible refine Below.setCell ?_ (by (try simp) <;> omega) _))))
  have HW := Lib.hid hW0
  clear hW0
  go_upto_region 1 with fail
  rw [HW.out]
  clear HW
  go_upto_region 5 with (go_at_call 9; (refine (awake18_any _).mono ?_); rintro e w1 ⟨rfl, hb1⟩; have S1 := Lib.hid (S0.out.below hb1); have P1 := Lib.hid (P0.out.below hb1); have H1 := Lib.hid (H0.out.below hb1); have B1 := Lib.hid (Below.after B0.out hb1); clear hb1)
  obtain ⟨bc, hbc⟩ : ∃ x, w1.heap.size = x := ⟨_, rfl⟩
  have hbo : w.heap.size + 1 + 1 < bc := by rw [← hbc]; exact H1.out.lt
  have F2 := Lib.hid (show Flg (w1.alloc (.cells #[.bool false] 25)) bc false by rw [← hbc]; exact Flg.new w1 false)
  have S2 := Lib.hid (S1.out.alloc (.cells #[.bool false] 25))
  have P2 := P1.out.alloc (.cells #[.bool false] 25)
  have H2 := Lib.hid (H1.out.alloc (.cells #[.bool false] 25))
  have B2 := Lib.hid (B1.out.alloc B1.out.size (.cells #[.bool false] 25))
  have HBC := Lib.hid hbc
  clear S0 P0 H0 B0 S1 P1 H1 B1 hbc
  go_upto_region 6 with fail
  (try rw [HBC.out])
  generalize w1.alloc (.cells #[.bool false] 25) = W2 at *
  clear HBC
  have C2 := Lib.hid (cond_any ⟨bc, 0, none⟩ false P W2 F2.out.cell F2.out.free)
  go_upto_region 7 with (first | (refine wpList_load_row rfl 30 _ rfl (w.heap.size + 1) rfl 30 _ (0, 0) _ (P2) Try.underlying30 rfl (icov.trans (by rw [arrv_size])) ?_) | (go_at_call 15; (refine C2.out.mono ?_); rintro e w3 ⟨rfl, hu3⟩; have F3 := Lib.hid (F2.out.hit hu3); have S3 := Lib.hid (S2.out.upd hu3 (by show w.heap.size ≠ bc; omega)); have H3 := Lib.hid (H2.out.upd hu3 (by show w.heap.size + 1 + 1 ≠ bc; omega)); have B3 := Lib.hid (own_upd B2.out (by show w.heap.size ≤ bc; omega) hu3); have R3 := P2.upd hu3 (by show w.heap.size + 1 ≠ bc; omega); clear hu3) | (refine wpList_store_row rfl 30 _ _ rfl (w.heap.size + 1) _ rfl rfl 30 _ (R3) (icov.trans (by rw [arrv_size])) (by rw [arrv_size, arrv_size]) (oneCell_arrv _ _) ?_))
  have V4 := R3.setRow (condF P)
  have F4 := Lib.hid (F3.out.row (arrv 300 (condF P)) (show bc ≠ w.heap.size + 1 by omega))
  have S4 := S3.out.setRow_other (k := w.heap.size + 1) (arrv 300 (condF P)) (by omega)
  have H4 := H3.out.setRow_other (k := w.heap.size + 1) (arrv 300 (condF P)) (by omega)
  have B4 := Lib.hid (below_row B3.out (show w.heap.size ≤ w.heap.size + 1 by omega) (arrv 300 (condF P)))
  generalize w3.setRow (w.heap.size + 1) (arrv 300 (condF P)) = W4 at *
  clear R3 F2 S2 P2 H2 B2 C2 F3 S3 H3 B3
  have LL := Lib.hid (twice_law S P H (r := r) hg1 hg2)
  have ON := Lib.hid (fuone_any ⟨bc, 0, none⟩ _ S (condF P) (obF H 0 r g) W4 F4.out.cell F4.out.free (by rw [(obF_y H 0 r g).2.2]; omega))
  have OM := Lib.hid (fun (f : Bool) (A Q : Nat → Int) (x : World) (k1 : x.cell? ⟨bc, 0, none⟩ = some (.bool f)) (k2 : x.frozen? ⟨bc, 0, none⟩ = false) => fuone_any ⟨bc, 0, none⟩ f A Q (obF H 0 r g) x k1 k2 (by rw [(obF_y H 0 r g).2.2]; omega))
  obtain ⟨O, hO⟩ : ∃ x, obF H 0 r g = x := ⟨_, rfl⟩
  simp only [hO] at ON OM LL
  have OB := Lib.hid hO
  obtain ⟨V, hV⟩ : ∃ x, condF P = x := ⟨_, rfl⟩
  rw [hV] at ON LL V4 ⊢
  obtain ⟨A, hA⟩ : ∃ x, foSt S V O = x := ⟨_, rfl⟩
  obtain ⟨Q, hQ⟩ : ∃ x, foPt V O = x := ⟨_, rfl⟩
  obtain ⟨X, hX⟩ : ∃ x, foS V O = x := ⟨_, rfl⟩
  rw [hA, hQ] at LL
  rw [LL.out.1.1, LL.out.1.2, hA, hQ, hX] at ON
  clear hO hV hA hQ hX
  refine wp_region_lit ?_
  refine wpList_val (v := ?_) rfl ?_ ?_
  rotate_left
  · (go_simp; (try (first | with_reducible rfl | (constructor <;> with_reducible rfl))))
  (try simp only [Act.put, List.setIfInBounds_toArray, List.set_cons_zero, List.set_cons_succ])
  refine wpList_val (v := ?_) rfl ?_ ?_
  rotate_left
  · refine Eq.trans (run_load_row 27 (.tmp 5) (by rfl) (w.heap.size) (by rfl) _ _ _ _ (S4) Try.underlying27 rfl (ist.trans (by rw [arrv_size]))) ?_; with_reducible rfl
  (try simp only [Act.put, List.setIfInBounds_toArray, List.set_cons_zero, List.set_cons_succ])
  refine wpList_val (v := ?_) rfl ?_ ?_
  rotate_left
  · refine Eq.trans (run_load_row 30 (.tmp 6) (by rfl) (w.heap.size + 1) (by rfl) _ _ _ _ (V4) Try.underlying30 rfl (icov.trans (by rw [arrv_size]))) ?_; with_reducible rfl
  (try simp only [Act.put, List.setIfInBounds_toArray, List.set_cons_zero, List.set_cons_succ])
  refine wpList_val (v := ?_) rfl ?_ ?_
  rotate_left
  · refine Eq.trans (run_load_row 40 (.tmp 7) (by rfl) (w.heap.size + 1 + 1) (by rfl) _ _ _ _ (H4) Try.underlying40 rfl (irow.trans (by rw [arrv_size]))) ?_; with_reducible rfl
  (try simp only [Act.put, List.setIfInBounds_toArray, List.set_cons_zero, List.set_cons_succ])
  refine wpList_val (v := ?_) rfl ?_ ?_
  rotate_left
  · (go_simp; (try (first | with_reducible rfl | (constructor <;> with_reducible rfl))))
  (try simp only [Act.put, List.setIfInBounds_toArray, List.set_cons_zero, List.set_cons_succ])
  refine wpList_val (v := ?_) rfl ?_ ?_
  rotate_left
  · (go_simp; (try (first | with_reducible rfl | (constructor <;> with_reducible rfl))))
  (try simp only [Act.put, List.setIfInBounds_toArray, List.set_cons_zero, List.set_cons_succ])
  refine wpList_val (v := ?_) rfl ?_ ?_
  rotate_left
  · refine Eq.trans (run_build_obs3 (.tmp 37) (.tmp 38) (.tmp 39) (by rfl) (by rfl) (by rfl) (by rfl)) ?_; rw [OB.out]
  (try simp only [Act.put, List.setIfInBounds_toArray, List.set_cons_zero, List.set_cons_succ])
  refine wpList_step (fun K hK => ?_)
  go_simp
  (refine ON.out.mono ?_); rintro e w8 ⟨rfl, hu8⟩; have F8 := Lib.hid (F4.out.hit hu8); have V8 := Lib.hid (V4.upd hu8 (by show w.heap.size + 1 ≠ bc; omega)); have H8 := Lib.hid (H4.upd hu8 (by show w.heap.size + 1 + 1 ≠ bc; omega)); have B8 := Lib.hid (own_upd B4.out (by show w.heap.size ≤ bc; omega) hu8); (have R8 := Lib.hid (aw_t8 w8); have R9 := Lib.hid (aw_q8 w8 (A)); have RA := Lib.hid (aw_r8 w8 (A) (Q)); (simp only [res3])); clear hu8
  (try dsimp only)
  (try simp only [Act.put, List.setIfInBounds_toArray, List.set_cons_zero, List.set_cons_succ])
  refine hK _ _ ?_
  clear hK K
  refine wpList_val (v := ?_) rfl ?_ ?_
  rotate_left
  · (go_simp; (try (first | with_reducible rfl | (constructor <;> with_reducible rfl))))
  (try simp only [Act.put, List.setIfInBounds_toArray, List.set_cons_zero, List.set_cons_succ])
  refine wpList_val (v := ?_) rfl ?_ ?_
  rotate_left
  · (go_simp; (try (first | with_reducible rfl | (constructor <;> with_reducible rfl))))
  (try simp only [Act.put, List.setIfInBounds_toArray, List.set_cons_zero, List.set_cons_succ])
  refine wpList_val (v := ?_) rfl ?_ ?_
  rotate_left
  · (go_simp; (try (first | with_reducible rfl | (constructor <;> with_reducible rfl))))
  (try simp only [Act.put, List.setIfInBounds_toArray, List.set_cons_zero, List.set_cons_succ])
  refine wpList_val (v := ?_) rfl ?_ ?_
  rotate_left
  · (go_simp; (try (first | with_reducible rfl | (constructor <;> with_reducible rfl))))
  (try simp only [Act.put, List.setIfInBounds_toArray, List.set_cons_zero, List.set_cons_succ])
  refine wpList_act (v := ?_) (w' := ?_) rfl ?_ ?_
  rotate_left 2
  · (go_simp; (try (first | with_reducible rfl | (constructor <;> with_reducible rfl))))
  (try simp only [Act.put, List.setIfInBounds_toArray, List.set_cons_zero, List.set_cons_succ])
  refine wpList_act (v := ?_) (w' := ?_) rfl ?_ ?_
  rotate_left 2
  · (go_simp; (try (first | with_reducible rfl | (constructor <;> with_reducible rfl))))
  (try simp only [Act.put, List.setIfInBounds_toArray, List.set_cons_zero, List.set_cons_succ])
  refine wpList_act (v := ?_) (w' := ?_) rfl ?_ ?_
  rotate_left 2
  · (go_simp; (try (first | with_reducible rfl | (constructor <;> with_reducible rfl))))
  (try simp only [Act.put, List.setIfInBounds_toArray, List.set_cons_zero, List.set_cons_succ])
  refine wpList_done (w' := ?_) rfl ?_ ?_
  rotate_left
  · refine Eq.trans (run_store_row 27 (.tmp 12) (.tmp 42) (by rfl) (w8.heap.size) (by rfl) (by rfl) (R8.out) (ist.trans rfl)) ?_; with_reducible rfl
  (try simp only [Act.put, List.setIfInBounds_toArray, List.set_cons_zero, List.set_cons_succ])
  refine wpList_done (w' := ?_) rfl ?_ ?_
  rotate_left
  · refine Eq.trans (run_store_row 30 (.tmp 13) (.tmp 43) (by rfl) (w8.heap.size + 1) (by rfl) (by rfl) (R9.out) (icov.trans rfl)) ?_; with_reducible rfl
  (try simp only [Act.put, List.setIfInBounds_toArray, List.set_cons_zero, List.set_cons_succ])
  refine wpList_done (w' := ?_) rfl ?_ ?_
  rotate_left
  · (obtain ⟨⟨v0, v1, v2⟩, y0, y1, y2⟩ := RA.out.c; go_simp; (try with_reducible rfl))
  (try simp only [Act.put, List.setIfInBounds_toArray, List.set_cons_zero, List.set_cons_succ])
  refine wpList_nil ?_
  obtain ⟨w9, hw9⟩ : ∃ x, x = ((((((((w8.alloc (.cells #[.int .i64 0, .int .i64 0, .int .i64 0, .int .i64 0, .int .i64 0, .int .i64 0, .int .i64 0, .int .i64 0, .int .i64 0, .int .i64 0, .int .i64 0, .int .i64 0, .int .i64 0, .int .i64 0, .int .i64 0, .int .i64 0, .int .i64 0, .int .i64 0, .int .i64 0, .int .i64 0, .int .i64 0, .int .i64 0, .int .i64 0, .int .i64 0] 27)).alloc (.cells Try.zeroCells30 30)).alloc (.cells #[.bool false, .int .i64 0, .int .i64 0] 43)).setRow w8.heap.size (arrv 24 (A))).setRow (w8.heap.size + 1) (arrv 300 (Q))).setCell ⟨w8.heap.size + 1 + 1, 0, none⟩ (.bool true)).setCell ⟨w8.heap.size + 1 + 1, 1, none⟩ (.int .i64 0)).setCell ⟨w8.heap.size + 1 + 1, 2, none⟩ (.int .i64 X)) := ⟨_, rfl⟩; rw [← hw9]; obtain ⟨M0, M1, M2, MB⟩ := one_made _ _ _ _ _ hw9; clear hw9 R8 R9 RA
  have F9 := Lib.hid (F8.out.below MB)
  have hta : bc < w8.heap.size := F8.out.lt
  have V9 := Lib.hid (V8.out.below MB)
  have H9 := H8.out.below MB
  have B9 := Lib.hid (Below.after B8.out MB)
  obtain ⟨ta, hta2⟩ : ∃ x, w8.heap.size = x := ⟨_, rfl⟩
  rw [hta2] at M0 M1 M2 hta ⊢
  have R9 := Lib.hid M2
  clear hta2 V4 S4 H4 B4 F4 ON F8 V8 H8 B8 M2 MB
  have OM9 := Lib.hid (OM.out _ A Q w9 F9.out.cell F9.out.free)
  obtain ⟨B, hB⟩ : ∃ x, foSt A Q O = x := ⟨_, rfl⟩
  obtain ⟨Z, hZ⟩ : ∃ x, foPt Q O = x := ⟨_, rfl⟩
  obtain ⟨U, hU⟩ : ∃ x, foS Q O = x := ⟨_, rfl⟩
  rw [LL.out.2.1, LL.out.1.2, hB, hZ, hU] at OM9
  rw [hB, hZ] at LL
  clear hB hZ hU OM
  go_upto_region 8 with fail
  refine wp_region_lit ?_
  refine wpList_val (v := ?_) rfl ?_ ?_
  rotate_left
  · (go_simp; (try (first | with_reducible rfl | (constructor <;> with_reducible rfl))))
  (try simp only [Act.put, List.setIfInBounds_toArray, List.set_cons_zero, List.set_cons_succ])
  refine wpList_val (v := ?_) rfl ?_ ?_
  rotate_left
  · refine Eq.trans (run_load_row 27 (.tmp 12) (by rfl) (ta) (by rfl) _ _ _ _ (M0) Try.underlying27 rfl (ist.trans (by rw [arrv_size]))) ?_; with_reducible rfl
  (try simp only [Act.put, List.setIfInBounds_toArray, List.set_cons_zero, List.set_cons_succ])
  refine wpList_val (v := ?_) rfl ?_ ?_
  rotate_left
  · refine Eq.trans (run_load_row 30 (.tmp 13) (by rfl) (ta + 1) (by rfl) _ _ _ _ (M1) Try.underlying30 rfl (icov.trans (by rw [arrv_size]))) ?_; with_reducible rfl
  (try simp only [Act.put, List.setIfInBounds_toArray, List.set_cons_zero, List.set_cons_succ])
  refine wpList_val (v := ?_) rfl ?_ ?_
  rotate_left
  · refine Eq.trans (run_load_row 40 (.tmp 7) (by rfl) (w.heap.size + 1 + 1) (by rfl) _ _ _ _ (H9) Try.underlying40 rfl (irow.trans (by rw [arrv_size]))) ?_; with_reducible rfl
  (try simp only [Act.put, List.setIfInBounds_toArray, List.set_cons_zero, List.set_cons_succ])
  refine wpList_val (v := ?_) rfl ?_ ?_
  rotate_left
  · (go_simp; (try (first | with_reducible rfl | (constructor <;> with_reducible rfl))))
  (try simp only [Act.put, List.setIfInBounds_toArray, List.set_cons_zero, List.set_cons_succ])
  refine wpList_val (v := ?_) rfl ?_ ?_
  rotate_left
  · (go_simp; (try (first | with_reducible rfl | (constructor <;> with_reducible rfl))))
  (try simp only [Act.put, List.setIfInBounds_toArray, List.set_cons_zero, List.set_cons_succ])
  refine wpList_val (v := ?_) rfl ?_ ?_
  rotate_left
  · refine Eq.trans (run_build_obs3 (.tmp 49) (.tmp 50) (.tmp 51) (by rfl) (by rfl) (by rfl) (by rfl)) ?_; rw [OB.out]
  (try simp only [Act.put, List.setIfInBounds_toArray, List.set_cons_zero, List.set_cons_succ])
  refine wpList_step (fun K hK => ?_)
  go_simp
  (refine OM9.out.mono ?_); rintro e w10 ⟨rfl, hu10⟩; have V10 := Lib.hid (V9.out.upd hu10 (by show w.heap.size + 1 ≠ bc; omega)); have A10 := Lib.hid (M0.upd hu10 (by show ta ≠ bc; omega)); have Q10 := Lib.hid (M1.upd hu10 (by show ta + 1 ≠ bc; omega)); have S10 := Lib.hid (R9.out.upd hu10 (by show ta + 1 + 1 ≠ bc; omega)); have B10 := Lib.hid (own_upd B9.out (by show w.heap.size ≤ bc; omega) hu10); clear R9; (have R8 := Lib.hid (aw_t8 w10); have R9 := Lib.hid (aw_q8 w10 (B)); have RA := Lib.hid (aw_r8 w10 (B) (Z)); (simp only [res3])); clear hu10
  (try dsimp only)
  (try simp only [Act.put, List.setIfInBounds_toArray, List.set_cons_zero, List.set_cons_succ])
  refine hK _ _ ?_
  clear hK K
  refine wpList_val (v := ?_) rfl ?_ ?_
  rotate_left
  · (go_simp; (try (first | with_reducible rfl | (constructor <;> with_reducible rfl))))
  (try simp only [Act.put, List.setIfInBounds_toArray, List.set_cons_zero, List.set_cons_succ])
  refine wpList_val (v := ?_) rfl ?_ ?_
  rotate_left
  · (go_simp; (try (first | with_reducible rfl | (constructor <;> with_reducible rfl))))
  (try simp only [Act.put, List.setIfInBounds_toArray, List.set_cons_zero, List.set_cons_succ])
  refine wpList_val (v := ?_) rfl ?_ ?_
  rotate_left
  · (go_simp; (try (first | with_reducible rfl | (constructor <;> with_reducible rfl))))
  (try simp only [Act.put, List.setIfInBounds_toArray, List.set_cons_zero, List.set_cons_succ])
  refine wpList_val (v := ?_) rfl ?_ ?_
  rotate_left
  · (go_simp; (try (first | with_reducible rfl | (constructor <;> with_reducible rfl))))
  (try simp only [Act.put, List.setIfInBounds_toArray, List.set_cons_zero, List.set_cons_succ])
  refine wpList_act (v := ?_) (w' := ?_) rfl ?_ ?_
  rotate_left 2
  · (go_simp; (try (first | with_reducible rfl | (constructor <;> with_reducible rfl))))
  (try simp only [Act.put, List.setIfInBounds_toArray, List.set_cons_zero, List.set_cons_succ])
  refine wpList_act (v := ?_) (w' := ?_) rfl ?_ ?_
  rotate_left 2
  · (go_simp; (try (first | with_reducible rfl | (constructor <;> with_reducible rfl))))
  (try simp only [Act.put, List.setIfInBounds_toArray, List.set_cons_zero, List.set_cons_succ])
  refine wpList_act (v := ?_) (w' := ?_) rfl ?_ ?_
  rotate_left 2
  · (go_simp; (try (first | with_reducible rfl | (constructor <;> with_reducible rfl))))
  (try simp only [Act.put, List.setIfInBounds_toArray, List.set_cons_zero, List.set_cons_succ])
  refine wpList_done (w' := ?_) rfl ?_ ?_
  rotate_left
  · refine Eq.trans (run_store_row 27 (.tmp 15) (.tmp 54) (by rfl) (w10.heap.size) (by rfl) (by rfl) (R8.out) (ist.trans rfl)) ?_; with_reducible rfl
  (try simp only [Act.put, List.setIfInBounds_toArray, List.set_cons_zero, List.set_cons_succ])
  refine wpList_done (w' := ?_) rfl ?_ ?_
  rotate_left
  · refine Eq.trans (run_store_row 30 (.tmp 16) (.tmp 55) (by rfl) (w10.heap.size + 1) (by rfl) (by rfl) (R9.out) (icov.trans rfl)) ?_; with_reducible rfl
  (try simp only [Act.put, List.setIfInBounds_toArray, List.set_cons_zero, List.set_cons_succ])
  refine wpList_done (w' := ?_) rfl ?_ ?_
  rotate_left
  · (obtain ⟨⟨v0, v1, v2⟩, y0, y1, y2⟩ := RA.out.c; go_simp; (try with_reducible rfl))
  (try simp only [Act.put, List.setIfInBounds_toArray, List.set_cons_zero, List.set_cons_succ])
  refine wpList_nil ?_
  obtain ⟨w11, hw11⟩ : ∃ x, x = ((((((((w10.alloc (.cells #[.int .i64 0, .int .i64 0, .int .i64 0, .int .i64 0, .int .i64 0, .int .i64 0, .int .i64 0, .int .i64 0, .int .i64 0, .int .i64 0, .int .i64 0, .int .i64 0, .int .i64 0, .int .i64 0, .int .i64 0, .int .i64 0, .int .i64 0, .int .i64 0, .int .i64 0, .int .i64 0, .int .i64 0, .int .i64 0, .int .i64 0, .int .i64 0] 27)).alloc (.cells Try.zeroCells30 30)).alloc (.cells #[.bool false, .int .i64 0, .int .i64 0] 43)).setRow w10.heap.size (arrv 24 (B))).setRow (w10.heap.size + 1) (arrv 300 (Z))).setCell ⟨w10.heap.size + 1 + 1, 0, none⟩ (.bool true)).setCell ⟨w10.heap.size + 1 + 1, 1, none⟩ (.int .i64 0)).setCell ⟨w10.heap.size + 1 + 1, 2, none⟩ (.int .i64 U)) := ⟨_, rfl⟩; rw [← hw11]; obtain ⟨N0, N1, N2, NB⟩ := one_made _ _ _ _ _ hw11; clear hw11 R8 R9 RA
  obtain ⟨tb, htb⟩ : ∃ x, w10.heap.size = x := ⟨_, rfl⟩
  rw [htb] at N0 N1 N2 ⊢
  have G11 : Hid (TwR bc (w.heap.size + 1) ta tb (w.heap.size + 1 + 1) V A Q B Z H X U w w11) := Lib.hid ⟨Below.after B10.out NB, V10.out.below NB, A10.out.below NB, Q10.out.below NB, S10.out.below NB, N0, N1, N2⟩
  obtain ⟨_, _, l3, l4, l5⟩ := LL.out
  have l3 := Lib.hid l3
  have l4 := Lib.hid l4
  have l5 := Lib.hid l5
  clear htb V10 A10 Q10 S10 B10 N0 N1 N2 NB M0 M1 H9 V9 B9 F9 OM9 LL OB
  obtain ⟨⟨c0, c1, c2⟩, _⟩ := G11.out.r.c
  obtain ⟨⟨e0, e1, e2⟩, _⟩ := G11.out.t.c
  go_upto_region 11 with fail
  clear c0 c1 c2 e0 e1 e2
  go_wp2_with fail
  go_loopw [18] (fun i wr => ∃ k : Nat, 4 ≤ k ∧ k ≤ 24 ∧ i = .int .i64 k ∧ Hid (TwR bc (w.heap.size + 1) ta tb (w.heap.size + 1 + 1) V A Q B Z H X U w wr)) (fun i _ => 24 - (intOf i).toNat)
  case atStart => exact ⟨4, by omega, by omega, rfl, G11⟩
  case round =>
    obtain ⟨k, hk4, hk, rfl, R⟩ := hrel
    by_cases hlt : k < 24
    · have d1 : decide ((k : Int) < 24) = true := by simp; omega
      have g1 := l3.out k hlt hk4
      have m0 := R.out.a.cell (i := k) (by omega)
      have m1 := R.out.b.cell (i := k) (by omega)
      rw [g1] at m1
      obtain ⟨AV, hAV⟩ : ∃ x, A k = x := ⟨_, rfl⟩
      rw [hAV] at m0 m1
      have q1 : (AV != AV) = false := by simp
      clear hAV g1
      go_upto_region 14 with fail
      go_quiet (fail)
      (try clear hHeld)
      go_wp2_with fail
      go_roundw
      case rel => exact ⟨k + 1, by omega, by omega, by go_num, Lib.hid (R.out.drews _)⟩
      case measure => simp [intOf]; omega
    · have hk24 : k = 24 := by omega
      subst hk24
      clear hk hk4 hlt G11
      go_wp2_with fail
      go_loopw [19] (fun i wr => ∃ k : Nat, k ≤ 24 ∧ i = .int .i64 k ∧ Hid (TwR bc (w.heap.size + 1) ta tb (w.heap.size + 1 + 1) V A Q B Z H X U w wr)) (fun i _ => 24 - (intOf i).toNat)
      case atStart => exact ⟨0, by omega, rfl, R⟩
      case round =>
        clear R
        obtain ⟨k, hk, rfl, R⟩ := hrel
        by_cases hlt : k < 24
        · have d1 : decide ((k : Int) < 24) = true := by simp; omega
          have g1 := l4.out k hlt
          have g2 := l5.out k hlt
          have m0 := R.out.v.cell (i := 276 + k) (by omega)
          have m1 := R.out.q.cell (i := 276 + k) (by omega)
          have m2 := R.out.z.cell (i := 276 + k) (by omega)
          obtain ⟨VV, hVV⟩ : ∃ x, V (276 + k) = x := ⟨_, rfl⟩
          obtain ⟨QV, hQV⟩ : ∃ x, Q (276 + k) = x := ⟨_, rfl⟩
          obtain ⟨ZV, hZV⟩ : ∃ x, Z (276 + k) = x := ⟨_, rfl⟩
          rw [hVV] at m0 g1
          rw [hQV] at m1 g1 g2
          rw [hZV] at m2 g2
          have q1 : decide (VV < QV) = false := by simp; omega
          have q2 : decide (QV < ZV) = false := by simp; omega
          clear hVV hQV hZV g1 g2
          go_upto_region 19 with fail
          go_quiet (fail)
          (try clear hHeld)
          go_wp2_with fail
          go_roundw
          case rel => exact ⟨k + 1, by omega, by go_num, Lib.hid (R.out.drews _)⟩
          case measure => simp [intOf]; omega
        · have hk24 : k = 24 := by omega
          subst hk24
          go_wp2_with fail
          go_ret
          exact ⟨rfl, R.out.below⟩
theorem twice_all (S P H : Nat → Int) (r g : Int) (w : World) :
    Calls Try.prog 5 #[.agg (arrv 24 S), .agg (arrv 300 P), .agg (arrv 24 H), .int .i64 r, .int .i64 g] w fun e w' => e = .returned (.bool true) ∧ Below w.heap.size w w' := by
  by_cases h : g < 1 ∨ 1000 < g
  · exact twice_noop S P H r g w h
  · exact twice_walk S P H r g w (by omega) (by omega)
end Go.Proofs.Ytchholofnccbmaa
