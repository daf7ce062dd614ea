/- awake of chapter 15. -/
import Derived.Test.YtcbklolfibdffaaSt7
namespace Go.Proofs.Ytcbklolfibdffaa
open Go.RowKit
set_option maxRecDepth 100000
def zeS : Nat → Int := fun _ => 0
def onS : Nat → Int := fun i => if i = 0 then 1073741824 else 0
def d47 : Nat → Int := fun i => if i = 4 then 7 else 0
def t47 : Nat → Int := fun i => if i = 0 then 1073741824 else if i = 4 then 7 else 0
def v7F : Nat → Int := fun i => if i = 0 then 7 else 0
theorem kp0 : (∀ i, i < 24 → keepF zeS i = onS i) ∧ keepH zeS = false := by decide +kernel
theorem ad47 : (∀ i, i < 24 → addNF onS d47 1 i = t47 i) ∧ addNH onS d47 1 = false := by decide +kernel
theorem gd15 : goodB onS = true ∧ goodB zeS = false := by decide +kernel
theorem on24 : (#[.int .i64 1073741824, .int .i64 0, .int .i64 0, .int .i64 0, .int .i64 0, .int .i64 0, .int .i64 0, .int .i64 0, .int .i64 0, .int .i64 0, .int .i64 0, .int .i64 0, .int .i64 0, .int .i64 0, .int .i64 0, .int .i64 0, .int .i64 0, .int .i64 0, .int .i64 0, .int .i64 0, .int .i64 0, .int .i64 0, .int .i64 0, .int .i64 0] : Array Value) = arrv 24 onS := by kernel_rfl
theorem d24 : (#[.int .i64 0, .int .i64 0, .int .i64 0, .int .i64 0, .int .i64 7, .int .i64 0, .int .i64 0, .int .i64 0, .int .i64 0, .int .i64 0, .int .i64 0, .int .i64 0, .int .i64 0, .int .i64 0, .int .i64 0, .int .i64 0, .int .i64 0, .int .i64 0, .int .i64 0, .int .i64 0, .int .i64 0, .int .i64 0, .int .i64 0, .int .i64 0] : Array Value) = arrv 24 d47 := by kernel_rfl
theorem ze24 : (#[.int .i64 0, .int .i64 0, .int .i64 0, .int .i64 0, .int .i64 0, .int .i64 0, .int .i64 0, .int .i64 0, .int .i64 0, .int .i64 0, .int .i64 0, .int .i64 0, .int .i64 0, .int .i64 0, .int .i64 0, .int .i64 0, .int .i64 0, .int .i64 0, .int .i64 0, .int .i64 0, .int .i64 0, .int .i64 0, .int .i64 0, .int .i64 0] : Array Value) = arrv 24 zeS := by kernel_rfl
theorem v73 : (#[.int .i64 7, .int .i64 0, .int .i64 0] : Array Value) = arrv 3 v7F := by kernel_rfl
structure Aw15 (sb tb : Nat) (w w' : World) : Prop where
  below : Below w.heap.size w w'
  flg : Flg w' w.heap.size false
  s : Blk w' sb 27 24 onS
  t : Blk w' tb 27 24 t47
theorem Aw15.down {sb tb : Nat} {w w1 w2 : World} (a : Aw15 sb tb w w1) (u : Below w1.heap.size w1 w2) : Aw15 sb tb w w2 := ⟨Below.after a.below u, a.flg.below u, a.s.below u, a.t.below u⟩
theorem Aw15.alloc {sb tb : Nat} {w w1 : World} (a : Aw15 sb tb w w1) (o : Obj) : Aw15 sb tb w (w1.alloc o) := a.down ((Below.refl _ _).alloc (Nat.le_refl _) o)
def l12 : Nat → Int := fun i => if i = 0 then 1 else 2
theorem eq15 : eqB 24 onS onS = true ∧ eqB 3 (partF t47 4) v7F = true ∧ eqB 4 onS oneQ = true ∧ withF onS 7 2 l12 8 = 2 ∧ boxF 4 = 549755813888 := by decide +kernel
/-- A block of zeros made, and filled. -/
theorem st_made (w1 : World) (g : Nat → Int) (w2 : World) (e : w2 = (w1.alloc (.cells #[.int .i64 0, .int .i64 0, .int .i64 0, .int .i64 0, .int .i64 0, .int .i64 0, .int .i64 0, .int .i64 0, .int .i64 0, .int .i64 0, .int .i64 0, .int .i64 0, .int .i64 0, .int .i64 0, .int .i64 0, .int .i64 0, .int .i64 0, .int .i64 0, .int .i64 0, .int .i64 0, .int .i64 0, .int .i64 0, .int .i64 0, .int .i64 0] 27)).setRow w1.heap.size (arrv 24 g)) : Blk w2 w1.heap.size 27 24 g ∧ Below w1.heap.size w1 w2 :=
  Blk.made (T := 27) zvec24 g e
set_option maxHeartbeats 8000000 in
theorem awake15_any (w : World) : Calls Try.prog 7 #[] w fun e w' => e = .returned (.bool true) ∧ Below w.heap.size w w' := by
  go_enter Try.func7, Try.ntmps7
  have F0 : Flg (w.alloc (.cells #[.bool false] 25)) w.heap.size false := Flg.new w false
  have B0 : Below w.heap.size w (w.alloc (.cells #[.bool false] 25)) := by (repeat (first | with_reducible exact Below.refl _ _ | with_reducible apply Below.drew | (with_reducible refine below_drewN ?_ _) | (with_reducible refine Below.alloc ?_ (by (try simp) <;> omega) _) | (with_reducible refine Below.setCell ?_ (by (try simp) <;> omega) _)))
  have F0 := Lib.hid F0
  have B0 := Lib.hid B0
  go_upto_region 2 with fail
  generalize w.alloc (.cells #[.bool false] 25) = W0 at *
  have K0 := Lib.hid (keep_any ⟨w.heap.size, 0, none⟩ false zeS W0 F0.out.cell F0.out.free)
  go_upto_region 3 with (first | (go_at_call 8; (rw [ze24]); (refine K0.out.mono ?_); rintro e w1 ⟨rfl, hu1⟩; (rw [arrv_congr kp0.1]); (rw [kp0.2] at hu1); replace hu1 : Upd ⟨w.heap.size, 0, none⟩ false W0 w1 := hu1; have F1 := Lib.hid (F0.out.hit hu1); have B1 := Lib.hid (own_upd B0.out (Nat.le_refl _) hu1); have R1 : Blk (w1.alloc (.cells #[.int .i64 0, .int .i64 0, .int .i64 0, .int .i64 0, .int .i64 0, .int .i64 0, .int .i64 0, .int .i64 0, .int .i64 0, .int .i64 0, .int .i64 0, .int .i64 0, .int .i64 0, .int .i64 0, .int .i64 0, .int .i64 0, .int .i64 0, .int .i64 0, .int .i64 0, .int .i64 0, .int .i64 0, .int .i64 0, .int .i64 0, .int .i64 0] 27)) w1.heap.size 27 24 (fun _ => 0) := (by rw [zvec24]; exact Blk.new _ _ 24 _); clear hu1) | (refine wpList_store_row rfl 27 _ _ rfl (w1.heap.size) _ rfl rfl 27 _ (R1) (ist.trans (by rw [arrv_size])) (by rw [arrv_size, arrv_size]) (oneCell_arrv _ _) ?_))
  obtain ⟨w2, hw2⟩ : ∃ x, x = (w1.alloc (.cells #[.int .i64 0, .int .i64 0, .int .i64 0, .int .i64 0, .int .i64 0, .int .i64 0, .int .i64 0, .int .i64 0, .int .i64 0, .int .i64 0, .int .i64 0, .int .i64 0, .int .i64 0, .int .i64 0, .int .i64 0, .int .i64 0, .int .i64 0, .int .i64 0, .int .i64 0, .int .i64 0, .int .i64 0, .int .i64 0, .int .i64 0, .int .i64 0] 27)).setRow w1.heap.size (arrv 24 onS) := ⟨_, rfl⟩
  rw [← hw2]
  obtain ⟨S2, MB2⟩ := st_made w1 onS w2 hw2
  have F2 := Lib.hid (F1.out.below MB2)
  have B2 := Lib.hid (Below.after B1.out MB2)
  have hs1 : w.heap.size < w1.heap.size := F1.out.lt
  obtain ⟨sb, hsb⟩ : ∃ sb, w1.heap.size = sb := ⟨_, rfl⟩
  rw [hsb] at S2 hs1 ⊢
  have HS2 := Lib.hid S2
  clear hw2 hsb R1 MB2 F1 B1 F0 B0 K0
  have DB : Blk (w2.alloc (.cells (arrv 24 d47) 26)) w2.heap.size 26 (24 * 1) d47 := Blk.new _ _ 24 _
  have F3 := Lib.hid (F2.out.alloc (.cells (arrv 24 d47) 26))
  have B3 := Lib.hid (B2.out.alloc B2.out.size (.cells (arrv 24 d47) 26))
  have S3 := Lib.hid (HS2.out.alloc (.cells (arrv 24 d47) 26))
  have A3 := Lib.hid (sadd_any ⟨w.heap.size, 0, none⟩ false onS d47 w2.heap.size 1 1 _ F3.out.cell F3.out.free (by decide) (by decide) DB)
  clear DB
  go_upto_region 4 with (first | (refine wpList_load_row rfl 27 _ rfl (sb) rfl 27 _ (0, 0) _ (S2) Try.underlying27 rfl (ist.trans (by rw [arrv_size])) ?_) | (go_at_call 12; (rw [d24]); (refine A3.out.mono ?_); rintro e w4 ⟨rfl, hu4⟩; (rw [arrv_congr ad47.1]); (rw [ad47.2] at hu4); replace hu4 : Upd ⟨w.heap.size, 0, none⟩ false _ w4 := hu4; have F4 := Lib.hid (F3.out.hit hu4); have B4 := Lib.hid (own_upd B3.out (Nat.le_refl _) hu4); have S4 := Lib.hid (S3.out.upd hu4 (by show sb ≠ w.heap.size; omega)); have R4 : Blk (w4.alloc (.cells #[.int .i64 0, .int .i64 0, .int .i64 0, .int .i64 0, .int .i64 0, .int .i64 0, .int .i64 0, .int .i64 0, .int .i64 0, .int .i64 0, .int .i64 0, .int .i64 0, .int .i64 0, .int .i64 0, .int .i64 0, .int .i64 0, .int .i64 0, .int .i64 0, .int .i64 0, .int .i64 0, .int .i64 0, .int .i64 0, .int .i64 0, .int .i64 0] 27)) w4.heap.size 27 24 (fun _ => 0) := (by rw [zvec24]; exact Blk.new _ _ 24 _); clear hu4) | (refine wpList_store_row rfl 27 _ _ rfl (w4.heap.size) _ rfl rfl 27 _ (R4) (ist.trans (by rw [arrv_size])) (by rw [arrv_size, arrv_size]) (oneCell_arrv _ _) ?_))
  obtain ⟨w5, hw5⟩ : ∃ x, x = (w4.alloc (.cells #[.int .i64 0, .int .i64 0, .int .i64 0, .int .i64 0, .int .i64 0, .int .i64 0, .int .i64 0, .int .i64 0, .int .i64 0, .int .i64 0, .int .i64 0, .int .i64 0, .int .i64 0, .int .i64 0, .int .i64 0, .int .i64 0, .int .i64 0, .int .i64 0, .int .i64 0, .int .i64 0, .int .i64 0, .int .i64 0, .int .i64 0, .int .i64 0] 27)).setRow w4.heap.size (arrv 24 t47) := ⟨_, rfl⟩
  rw [← hw5]
  obtain ⟨T5, MB5⟩ := st_made w4 t47 w5 hw5
  have F5 := Lib.hid (F4.out.below MB5)
  have B5 := Lib.hid (Below.after B4.out MB5)
  have S5 := Lib.hid (S4.out.below MB5)
  have ht1 : w.heap.size < w4.heap.size := F4.out.lt
  obtain ⟨tb, htb⟩ : ∃ tb, w4.heap.size = tb := ⟨_, rfl⟩
  rw [htb] at T5 ht1 ⊢
  have T5 := Lib.hid T5
  have R5 : Hid (Aw15 sb tb w w5) := Lib.hid ⟨B5.out, F5.out, S5.out, T5.out⟩
  clear hw5 htb R4 MB5 F4 B4 S4 F3 B3 S3 F2 B2 HS2 S2 A3 F5 B5 S5 T5
  have S5 := R5.out.s
  have E := Lib.hid eq15
  have GD := Lib.hid gd15
  refine wp_region_lit ?_
  refine wpList_val (v := ?_) rfl ?_ ?_
  rotate_left
  · refine Eq.trans (run_load_row 27 (.tmp 2) (by rfl) (sb) (by rfl) _ _ _ _ (S5) Try.underlying27 rfl (ist.trans (by rw [arrv_size]))) ?_; with_reducible rfl
  (try simp only [Act.put, List.setIfInBounds_toArray, List.set_cons_zero, List.set_cons_succ])
  refine wpList_val (v := ?_) rfl ?_ ?_
  rotate_left
  · (go_simp; (try (first | with_reducible rfl | (constructor <;> with_reducible rfl))))
  (try simp only [Act.put, List.setIfInBounds_toArray, List.set_cons_zero, List.set_cons_succ])
  refine wpList_val (v := ?_) rfl ?_ ?_
  rotate_left
  · refine Eq.trans (run_op_eqlVec Try.underlying27 (by kernel_rfl) (.tmp 14) (.tmp 15) (by rfl) (by rfl) (g := onS) (by rw [← on24]; rfl) E.out.1) ?_; with_reducible rfl
  (try simp only [Act.put, List.setIfInBounds_toArray, List.set_cons_zero, List.set_cons_succ])
  refine wpList_val (v := ?_) rfl ?_ ?_
  rotate_left
  · (go_simp; (try (first | with_reducible rfl | (constructor <;> with_reducible rfl))))
  (try simp only [Act.put, List.setIfInBounds_toArray, List.set_cons_zero, List.set_cons_succ])
  first | (refine wpList_val (v := ?_) (by rfl) ?_ ?_; rotate_left; focus (refine Eq.trans (run_load_row 27 (.tmp 2) (by rfl) (sb) (by rfl) _ _ _ _ (S5) Try.underlying27 rfl (ist.trans (by rw [arrv_size]))) ?_; with_reducible rfl)) | refine wpList_skip (by rfl) ?_
  (try simp only [Act.put, List.setIfInBounds_toArray, List.set_cons_zero, List.set_cons_succ])
  refine wpList_step (fun K hK => ?_)
  go_simp
  (refine (sgood_any onS _).mono ?_); rintro e w6 ⟨rfl, hb6⟩; (rw [GD.out.1]); have R6 := Lib.hid (R5.out.down hb6); clear hb6 S5 R5
  (try dsimp only)
  (try simp only [Act.put, List.setIfInBounds_toArray, List.set_cons_zero, List.set_cons_succ])
  refine hK _ _ ?_
  clear hK K
  refine wpList_val (v := ?_) rfl ?_ ?_
  rotate_left
  · (go_simp; (try (first | with_reducible rfl | (constructor <;> with_reducible rfl))))
  (try simp only [Act.put, List.setIfInBounds_toArray, List.set_cons_zero, List.set_cons_succ])
  refine wpList_val (v := ?_) rfl ?_ ?_
  rotate_left
  · (go_simp; (try (first | with_reducible rfl | (constructor <;> with_reducible rfl))))
  (try simp only [Act.put, List.setIfInBounds_toArray, List.set_cons_zero, List.set_cons_succ])
  first | (refine wpList_val (v := ?_) (by rfl) ?_ ?_; rotate_left; focus ((go_simp; (try (first | with_reducible rfl | (constructor <;> with_reducible rfl)))))) | refine wpList_skip (by rfl) ?_
  (try simp only [Act.put, List.setIfInBounds_toArray, List.set_cons_zero, List.set_cons_succ])
  refine wpList_step (fun K hK => ?_)
  go_simp
  (rw [ze24]); (refine (sgood_any zeS _).mono ?_); rintro e w7 ⟨rfl, hb7⟩; (rw [GD.out.2]); have R7 := Lib.hid (R6.out.down hb7); have T7 := R7.out.t; have t7 := T7.cell (i := 4) (by decide); replace t7 : w7.cell? ⟨tb, 4, none⟩ = some (.int .i64 7) := t7; clear hb7 R6
  (try dsimp only)
  (try simp only [Act.put, List.setIfInBounds_toArray, List.set_cons_zero, List.set_cons_succ])
  refine hK _ _ ?_
  clear hK K
  first | (refine wpList_val (v := ?_) (by rfl) ?_ ?_; rotate_left; focus ((go_simp; (try (first | with_reducible rfl | (constructor <;> with_reducible rfl)))))) | refine wpList_skip (by rfl) ?_
  (try simp only [Act.put, List.setIfInBounds_toArray, List.set_cons_zero, List.set_cons_succ])
  refine wpList_val (v := ?_) rfl ?_ ?_
  rotate_left
  · (go_simp; (try (first | with_reducible rfl | (constructor <;> with_reducible rfl))))
  (try simp only [Act.put, List.setIfInBounds_toArray, List.set_cons_zero, List.set_cons_succ])
  refine wpList_val (v := ?_) rfl ?_ ?_
  rotate_left
  · (go_simp; (try (first | with_reducible rfl | (constructor <;> with_reducible rfl))))
  (try simp only [Act.put, List.setIfInBounds_toArray, List.set_cons_zero, List.set_cons_succ])
  first | (refine wpList_val (v := ?_) (by rfl) ?_ ?_; rotate_left; focus ((go_simp; (try (first | with_reducible rfl | (constructor <;> with_reducible rfl)))))) | refine wpList_skip (by rfl) ?_
  (try simp only [Act.put, List.setIfInBounds_toArray, List.set_cons_zero, List.set_cons_succ])
  first | (refine wpList_val (v := ?_) (by rfl) ?_ ?_; rotate_left; focus ((go_simp; (try (first | with_reducible rfl | (constructor <;> with_reducible rfl)))))) | refine wpList_skip (by rfl) ?_
  (try simp only [Act.put, List.setIfInBounds_toArray, List.set_cons_zero, List.set_cons_succ])
  first | (refine wpList_val (v := ?_) (by rfl) ?_ ?_; rotate_left; focus ((go_simp; (try (first | with_reducible rfl | (constructor <;> with_reducible rfl)))))) | refine wpList_skip (by rfl) ?_
  (try simp only [Act.put, List.setIfInBounds_toArray, List.set_cons_zero, List.set_cons_succ])
  refine wpList_val (v := ?_) rfl ?_ ?_
  rotate_left
  · (go_simp; (try (first | with_reducible rfl | (constructor <;> with_reducible rfl))))
  (try simp only [Act.put, List.setIfInBounds_toArray, List.set_cons_zero, List.set_cons_succ])
  refine wpList_val (v := ?_) rfl ?_ ?_
  rotate_left
  · (go_simp; (try (first | with_reducible rfl | (constructor <;> with_reducible rfl))))
  (try simp only [Act.put, List.setIfInBounds_toArray, List.set_cons_zero, List.set_cons_succ])
  first | (refine wpList_val (v := ?_) (by rfl) ?_ ?_; rotate_left; focus (refine Eq.trans (run_load_row 27 (.tmp 3) (by rfl) (tb) (by rfl) _ _ _ _ (T7) Try.underlying27 rfl (ist.trans (by rw [arrv_size]))) ?_; with_reducible rfl)) | refine wpList_skip (by rfl) ?_
  (try simp only [Act.put, List.setIfInBounds_toArray, List.set_cons_zero, List.set_cons_succ])
  refine wpList_step (fun K hK => ?_)
  go_simp
  (refine (part_any t47 4 _ (by decide) (by decide)).mono ?_); rintro e w8 ⟨rfl, hb8⟩; have R8 := Lib.hid (R7.out.down hb8); have S8 := R8.out.s; clear hb8 R7 T7 t7
  (try dsimp only)
  (try simp only [Act.put, List.setIfInBounds_toArray, List.set_cons_zero, List.set_cons_succ])
  refine hK _ _ ?_
  clear hK K
  first | (refine wpList_val (v := ?_) (by rfl) ?_ ?_; rotate_left; focus ((go_simp; (try (first | with_reducible rfl | (constructor <;> with_reducible rfl)))))) | refine wpList_skip (by rfl) ?_
  (try simp only [Act.put, List.setIfInBounds_toArray, List.set_cons_zero, List.set_cons_succ])
  first | (refine wpList_val (v := ?_) (by rfl) ?_ ?_; rotate_left; focus (refine Eq.trans (run_op_eqlVec Try.underlying32 (by kernel_rfl) (.tmp 33) (.tmp 34) (by rfl) (by rfl) (g := v7F) (by rw [← v73]; rfl) E.out.2.1) ?_; with_reducible rfl)) | refine wpList_skip (by rfl) ?_
  (try simp only [Act.put, List.setIfInBounds_toArray, List.set_cons_zero, List.set_cons_succ])
  refine wpList_val (v := ?_) rfl ?_ ?_
  rotate_left
  · (go_simp; (try (first | with_reducible rfl | (constructor <;> with_reducible rfl))))
  (try simp only [Act.put, List.setIfInBounds_toArray, List.set_cons_zero, List.set_cons_succ])
  refine wpList_val (v := ?_) rfl ?_ ?_
  rotate_left
  · (go_simp; (try (first | with_reducible rfl | (constructor <;> with_reducible rfl))))
  (try simp only [Act.put, List.setIfInBounds_toArray, List.set_cons_zero, List.set_cons_succ])
  first | (refine wpList_val (v := ?_) (by rfl) ?_ ?_; rotate_left; focus (refine Eq.trans (run_load_row 27 (.tmp 2) (by rfl) (sb) (by rfl) _ _ _ _ (S8) Try.underlying27 rfl (ist.trans (by rw [arrv_size]))) ?_; with_reducible rfl)) | refine wpList_skip (by rfl) ?_
  (try simp only [Act.put, List.setIfInBounds_toArray, List.set_cons_zero, List.set_cons_succ])
  refine wpList_act (v := ?_) (w' := ?_) (by rfl) ?_ ?_
  rotate_left 2
  · (go_simp; (try (first | with_reducible rfl | (constructor <;> with_reducible rfl))))
  (try simp only [Act.put, List.setIfInBounds_toArray, List.set_cons_zero, List.set_cons_succ])
  refine wpList_step (fun K hK => ?_)
  go_simp
  have L9 : Slc (w8.alloc (.cells #[.int .i64 1, .int .i64 2] 2)) (some ⟨w8.heap.size, 0, none⟩) 2 l12 := (by intro i hi; obtain rfl | rfl : i = 0 ∨ i = 1 := (by omega); exact ⟨_, _, rfl, by simp [go_sem, l12]⟩; exact ⟨_, _, rfl, by simp [go_sem, l12]⟩); (refine (swith_any onS 7 _ 2 _ l12 _ (by decide) (by decide) (by decide) L9).mono ?_); rintro e w9 ⟨rfl, hb9⟩; have R9 := Lib.hid ((R8.out.alloc _).down hb9); have S9 := R9.out.s; clear hb9 R8 S8 L9
  (try dsimp only)
  (try simp only [Act.put, List.setIfInBounds_toArray, List.set_cons_zero, List.set_cons_succ])
  refine hK _ _ ?_
  clear hK K
  first | (refine wpList_val (v := ?_) (by rfl) ?_ ?_; rotate_left; focus (refine Eq.trans (run_index_vec Try.underlying27 (.tmp 40) (.const (.int .i64 8)) (by rfl) (by rfl) 8 (by rfl) (by omega)) ?_; rw [E.out.2.2.2.1])) | refine wpList_skip (by rfl) ?_
  (try simp only [Act.put, List.setIfInBounds_toArray, List.set_cons_zero, List.set_cons_succ])
  first | (refine wpList_val (v := ?_) (by rfl) ?_ ?_; rotate_left; focus ((go_simp; (try (first | with_reducible rfl | (constructor <;> with_reducible rfl)))))) | refine wpList_skip (by rfl) ?_
  (try simp only [Act.put, List.setIfInBounds_toArray, List.set_cons_zero, List.set_cons_succ])
  refine wpList_val (v := ?_) rfl ?_ ?_
  rotate_left
  · (go_simp; (try (first | with_reducible rfl | (constructor <;> with_reducible rfl))))
  (try simp only [Act.put, List.setIfInBounds_toArray, List.set_cons_zero, List.set_cons_succ])
  refine wpList_val (v := ?_) rfl ?_ ?_
  rotate_left
  · (go_simp; (try (first | with_reducible rfl | (constructor <;> with_reducible rfl))))
  (try simp only [Act.put, List.setIfInBounds_toArray, List.set_cons_zero, List.set_cons_succ])
  first | (refine wpList_val (v := ?_) (by rfl) ?_ ?_; rotate_left; focus (refine Eq.trans (run_load_row 27 (.tmp 2) (by rfl) (sb) (by rfl) _ _ _ _ (S9) Try.underlying27 rfl (ist.trans (by rw [arrv_size]))) ?_; with_reducible rfl)) | refine wpList_skip (by rfl) ?_
  (try simp only [Act.put, List.setIfInBounds_toArray, List.set_cons_zero, List.set_cons_succ])
  refine wpList_step (fun K hK => ?_)
  go_simp
  (refine (att_any onS _).mono ?_); rintro e w10 ⟨rfl, hb10⟩; have R10 := Lib.hid (R9.out.down hb10); clear hb10 R9 S9
  (try dsimp only)
  (try simp only [Act.put, List.setIfInBounds_toArray, List.set_cons_zero, List.set_cons_succ])
  refine hK _ _ ?_
  clear hK K
  refine wpList_step (fun K hK => ?_)
  go_simp
  (refine (qone_any _).mono ?_); rintro e w11 ⟨rfl, hb11⟩; have R11 := Lib.hid (R10.out.down hb11); clear hb11 R10
  (try dsimp only)
  (try simp only [Act.put, List.setIfInBounds_toArray, List.set_cons_zero, List.set_cons_succ])
  refine hK _ _ ?_
  clear hK K
  first | (refine wpList_val (v := ?_) (by rfl) ?_ ?_; rotate_left; focus (refine Eq.trans (run_op_eqlVec Try.underlying40 (by kernel_rfl) (.tmp 46) (.tmp 47) (by rfl) (by rfl) (by rfl) E.out.2.2.1) ?_; with_reducible rfl)) | refine wpList_skip (by rfl) ?_
  (try simp only [Act.put, List.setIfInBounds_toArray, List.set_cons_zero, List.set_cons_succ])
  refine wpList_val (v := ?_) rfl ?_ ?_
  rotate_left
  · (go_simp; (try (first | with_reducible rfl | (constructor <;> with_reducible rfl))))
  (try simp only [Act.put, List.setIfInBounds_toArray, List.set_cons_zero, List.set_cons_succ])
  refine wpList_val (v := ?_) rfl ?_ ?_
  rotate_left
  · (go_simp; (try (first | with_reducible rfl | (constructor <;> with_reducible rfl))))
  (try simp only [Act.put, List.setIfInBounds_toArray, List.set_cons_zero, List.set_cons_succ])
  refine wpList_step (fun K hK => ?_)
  go_simp
  (refine (bounds_any _).mono ?_); rintro e w12 ⟨rfl, hb12⟩; have R12 := Lib.hid (R11.out.down hb12); have f12 := R12.out.flg.cell; clear hb12 R11
  (try dsimp only)
  (try simp only [Act.put, List.setIfInBounds_toArray, List.set_cons_zero, List.set_cons_succ])
  refine hK _ _ ?_
  clear hK K
  first | (refine wpList_val (v := ?_) (by rfl) ?_ ?_; rotate_left; focus (refine Eq.trans (run_index_vec Try.underlying29 (.tmp 51) (.const (.int .i64 4)) (by rfl) (by rfl) 4 (by rfl) (by omega)) ?_; rw [E.out.2.2.2.2])) | refine wpList_skip (by rfl) ?_
  (try simp only [Act.put, List.setIfInBounds_toArray, List.set_cons_zero, List.set_cons_succ])
  first | (refine wpList_val (v := ?_) (by rfl) ?_ ?_; rotate_left; focus ((go_simp; (try (first | with_reducible rfl | (constructor <;> with_reducible rfl)))))) | refine wpList_skip (by rfl) ?_
  (try simp only [Act.put, List.setIfInBounds_toArray, List.set_cons_zero, List.set_cons_succ])
  refine wpList_val (v := ?_) rfl ?_ ?_
  rotate_left
  · (go_simp; (try (first | with_reducible rfl | (constructor <;> with_reducible rfl))))
  (try simp only [Act.put, List.setIfInBounds_toArray, List.set_cons_zero, List.set_cons_succ])
  refine wpList_val (v := ?_) rfl ?_ ?_
  rotate_left
  · (go_simp; (try (first | with_reducible rfl | (constructor <;> with_reducible rfl))))
  (try simp only [Act.put, List.setIfInBounds_toArray, List.set_cons_zero, List.set_cons_succ])
  first | (refine wpList_val (v := ?_) (by rfl) ?_ ?_; rotate_left; focus ((go_simp; (try (first | with_reducible rfl | (constructor <;> with_reducible rfl)))))) | refine wpList_skip (by rfl) ?_
  (try simp only [Act.put, List.setIfInBounds_toArray, List.set_cons_zero, List.set_cons_succ])
  first | (refine wpList_val (v := ?_) (by rfl) ?_ ?_; rotate_left; focus ((go_simp; (try (first | with_reducible rfl | (constructor <;> with_reducible rfl)))))) | refine wpList_skip (by rfl) ?_
  (try simp only [Act.put, List.setIfInBounds_toArray, List.set_cons_zero, List.set_cons_succ])
  first | (refine wpList_val (v := ?_) (by rfl) ?_ ?_; rotate_left; focus ((go_simp; (try (first | with_reducible rfl | (constructor <;> with_reducible rfl)))))) | refine wpList_skip (by rfl) ?_
  (try simp only [Act.put, List.setIfInBounds_toArray, List.set_cons_zero, List.set_cons_succ])
  first | (refine wpList_val (v := ?_) (by rfl) ?_ ?_; rotate_left; focus ((go_simp; (try (first | with_reducible rfl | (constructor <;> with_reducible rfl)))))) | refine wpList_skip (by rfl) ?_
  (try simp only [Act.put, List.setIfInBounds_toArray, List.set_cons_zero, List.set_cons_succ])
  first | (refine wpList_val (v := ?_) (by rfl) ?_ ?_; rotate_left; focus ((go_simp; (try (first | with_reducible rfl | (constructor <;> with_reducible rfl)))))) | refine wpList_skip (by rfl) ?_
  (try simp only [Act.put, List.setIfInBounds_toArray, List.set_cons_zero, List.set_cons_succ])
  refine wpList_val (v := ?_) rfl ?_ ?_
  rotate_left
  · (go_simp; (try (first | with_reducible rfl | (constructor <;> with_reducible rfl))))
  (try simp only [Act.put, List.setIfInBounds_toArray, List.set_cons_zero, List.set_cons_succ])
  refine wpList_val (v := ?_) rfl ?_ ?_
  rotate_left
  · (go_simp; (try (first | with_reducible rfl | (constructor <;> with_reducible rfl))))
  (try simp only [Act.put, List.setIfInBounds_toArray, List.set_cons_zero, List.set_cons_succ])
  refine wpList_nil ?_
  go_wp2_with fail
  go_ret
  exact ⟨rfl, R12.out.below⟩
end Go.Proofs.Ytcbklolfibdffaa
