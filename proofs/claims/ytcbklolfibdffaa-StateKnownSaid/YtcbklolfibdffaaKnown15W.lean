/- The walk of StateKnown. -/
import Derived.Test.YtcbklolfibdffaaAwk15
import Derived.Test.YtcbklolfibdffaaClampsW
namespace Go.Proofs.Ytcbklolfibdffaa
open Go.RowKit
set_option maxRecDepth 100000
def k15 : Nat → Int := fun i => if i = 0 then 1073741824 else if i = 4 then 1099511627776 else 0
def s15 : Nat → Int := fun i => if i = 0 then 1073741824 else if i = 4 then 549755813888 else 0
theorem kp15 : (∀ i, i < 24 → keepF k15 i = s15 i) ∧ keepH k15 = true := by decide +kernel
theorem k15v : (#[.int .i64 1073741824, .int .i64 0, .int .i64 0, .int .i64 0, .int .i64 1099511627776, .int .i64 0, .int .i64 0, .int .i64 0, .int .i64 0, .int .i64 0, .int .i64 0, .int .i64 0, .int .i64 0, .int .i64 0, .int .i64 0, .int .i64 0, .int .i64 0, .int .i64 0, .int .i64 0, .int .i64 0, .int .i64 0, .int .i64 0, .int .i64 0, .int .i64 0] : Array Value) = arrv 24 k15 := by kernel_rfl
theorem eq15b : eqB 3 (partF s15 23) (fun _ => 0) = true ∧ eqB 24 (withF s15 24 1 (fun _ => 5)) s15 = true := by decide +kernel
structure Kn15 (bc sb bb : Nat) (w' : World) : Prop where
  flg : Flg w' bc true
  s : Blk w' sb 27 24 s15
  b : Blk w' bb 29 24 boxF
theorem Kn15.down {bc sb bb : Nat} {w1 w2 : World} (a : Kn15 bc sb bb w1) (u : Below w1.heap.size w1 w2) : Kn15 bc sb bb w2 := ⟨a.flg.below u, a.s.below u, a.b.below u⟩
theorem Kn15.c0 {bc sb bb : Nat} {w1 : World} (a : Kn15 bc sb bb w1) : w1.cell? ⟨sb, 4, none⟩ = some (.int .i64 549755813888) ∧ w1.cell? ⟨bb, 0, none⟩ = some (.int .i64 1073741840) ∧ w1.cell? ⟨bb, 23, none⟩ = some (.int .i64 137438953472) ∧ w1.cell? ⟨bb, 10, none⟩ = some (.int .i64 134217728) ∧ w1.cell? ⟨bc, 0, none⟩ = some (.bool true) :=
  ⟨a.s.cell (i := 4) (by decide), a.b.cell (i := 0) (by decide), a.b.cell (i := 23) (by decide), a.b.cell (i := 10) (by decide), a.flg.cell⟩
set_option maxHeartbeats 8000000 in
theorem known15_walk (w : World) : Calls Try.prog 3 #[] w fun e w' => e = .returned (.bool true) ∧ Below w.heap.size w w' := by
  go_enter Try.func3, Try.ntmps3
  go_upto_region 3 with (go_at_call 7; (refine (awake15_any _).mono ?_); rintro e w1 ⟨rfl, hb1⟩; have B1 := Lib.hid hb1; clear hb1)
  obtain ⟨bc, hbc⟩ : ∃ x, w1.heap.size = x := ⟨_, rfl⟩
  have hbw : w.heap.size ≤ bc := by rw [← hbc]; exact B1.out.size
  have F2 : Flg (w1.alloc (.cells #[.bool false] 25)) bc false := by rw [← hbc]; exact Flg.new w1 false
  have B2 := Lib.hid (B1.out.alloc B1.out.size (.cells #[.bool false] 25))
  have F2 := Lib.hid F2
  have HBC := Lib.hid hbc
  clear B1 hbc
  go_upto_region 4 with fail
  (try rw [HBC.out])
  generalize w1.alloc (.cells #[.bool false] 25) = W2 at *
  clear HBC
  have K2 := Lib.hid (keep_any ⟨bc, 0, none⟩ false k15 W2 F2.out.cell F2.out.free)
  go_upto_region 5 with (first | (go_at_call 8; (rw [k15v]); (refine K2.out.mono ?_); rintro e w3 ⟨rfl, hu3⟩; (rw [arrv_congr kp15.1]); (rw [kp15.2] at hu3); replace hu3 : Upd ⟨bc, 0, none⟩ true W2 w3 := hu3; have F3 := Lib.hid (F2.out.hit hu3); have B3 := Lib.hid (own_upd B2.out (by show w.heap.size ≤ bc; omega) hu3); have R3 : Blk (w3.alloc (.cells #[.int .i64 0, .int .i64 0, .int .i64 0, .int .i64 0, .int .i64 0, .int .i64 0, .int .i64 0, .int .i64 0, .int .i64 0, .int .i64 0, .int .i64 0, .int .i64 0, .int .i64 0, .int .i64 0, .int .i64 0, .int .i64 0, .int .i64 0, .int .i64 0, .int .i64 0, .int .i64 0, .int .i64 0, .int .i64 0, .int .i64 0, .int .i64 0] 27)) w3.heap.size 27 24 (fun _ => 0) := (by rw [zvec24]; exact Blk.new _ _ 24 _); clear hu3) | (refine wpList_store_row rfl 27 _ _ rfl (w3.heap.size) _ rfl rfl 27 _ (R3) (ist.trans (by rw [arrv_size])) (by rw [arrv_size, arrv_size]) (oneCell_arrv _ _) ?_))
  obtain ⟨w4, hw4⟩ : ∃ x, x = (w3.alloc (.cells #[.int .i64 0, .int .i64 0, .int .i64 0, .int .i64 0, .int .i64 0, .int .i64 0, .int .i64 0, .int .i64 0, .int .i64 0, .int .i64 0, .int .i64 0, .int .i64 0, .int .i64 0, .int .i64 0, .int .i64 0, .int .i64 0, .int .i64 0, .int .i64 0, .int .i64 0, .int .i64 0, .int .i64 0, .int .i64 0, .int .i64 0, .int .i64 0] 27)).setRow w3.heap.size (arrv 24 s15) := ⟨_, rfl⟩
  rw [← hw4]
  obtain ⟨K4, MB4⟩ := st_made w3 s15 w4 hw4
  have F4 := Lib.hid (F3.out.below MB4)
  have B4 := Lib.hid (Below.after B3.out MB4)
  obtain ⟨sb, hsb⟩ : ∃ x, w3.heap.size = x := ⟨_, rfl⟩
  rw [hsb] at K4 ⊢
  have K4 := Lib.hid K4
  clear hw4 hsb R3 MB4 F3 B3 K2 F2 B2
  go_upto_region 6 with (first | (go_at_call 9; (refine (bounds_any _).mono ?_); rintro e w5 ⟨rfl, hb5⟩; have F5 := Lib.hid (F4.out.below hb5); have K5 := Lib.hid (K4.out.below hb5); have B5 := Lib.hid (Below.after B4.out hb5); have R5 : Blk (w5.alloc (.cells #[.int .i64 0, .int .i64 0, .int .i64 0, .int .i64 0, .int .i64 0, .int .i64 0, .int .i64 0, .int .i64 0, .int .i64 0, .int .i64 0, .int .i64 0, .int .i64 0, .int .i64 0, .int .i64 0, .int .i64 0, .int .i64 0, .int .i64 0, .int .i64 0, .int .i64 0, .int .i64 0, .int .i64 0, .int .i64 0, .int .i64 0, .int .i64 0] 29)) w5.heap.size 29 24 (fun _ => 0) := (by rw [zvec24]; exact Blk.new _ _ 24 _); clear hb5) | (refine wpList_store_row rfl 29 _ _ rfl (w5.heap.size) _ rfl rfl 29 _ (R5) (ibox.trans (by rw [arrv_size])) (by rw [arrv_size, arrv_size]) (oneCell_arrv _ _) ?_))
  obtain ⟨w6, hw6⟩ : ∃ x, x = (w5.alloc (.cells #[.int .i64 0, .int .i64 0, .int .i64 0, .int .i64 0, .int .i64 0, .int .i64 0, .int .i64 0, .int .i64 0, .int .i64 0, .int .i64 0, .int .i64 0, .int .i64 0, .int .i64 0, .int .i64 0, .int .i64 0, .int .i64 0, .int .i64 0, .int .i64 0, .int .i64 0, .int .i64 0, .int .i64 0, .int .i64 0, .int .i64 0, .int .i64 0] 29)).setRow w5.heap.size (arrv 24 boxF) := ⟨_, rfl⟩
  rw [← hw6]
  obtain ⟨X6, MB6⟩ := Blk.made (T := 29) zvec24 boxF hw6
  obtain ⟨bb, hbb⟩ : ∃ x, w5.heap.size = x := ⟨_, rfl⟩
  rw [hbb] at X6 ⊢
  have R6 : Hid (Kn15 bc sb bb w6) := Lib.hid ⟨F5.out.below MB6, K5.out.below MB6, X6⟩
  have B6 := Lib.hid (Below.after B5.out MB6)
  clear hw6 hbb R5 MB6 F5 K5 B5 X6 F4 K4 B4
  have E := Lib.hid eq15b
  refine wp_region_M (fun w' => Kn15 bc sb bb w') 37 (by kernel_rfl) ?_ (fun hHeld => ?_)
  · exact R6.out.down (Below.drew (Below.refl _ _))
  refine wpAnyM_take 0 (v := ?_) rfl (by kernel_rfl) (fun _ _ _ h => h) (Or.inl ⟨by rfl, ?_⟩) (by assumption) ?_
  rotate_left
  · (intro wx hSw; (try dsimp only at hSw); go_simp; (try with_reducible rfl))
  (try simp only [Act.put, List.setIfInBounds_toArray, List.set_cons_zero, List.set_cons_succ])
  refine wpAnyM_take 1 (v := ?_) rfl (by kernel_rfl) (fun _ _ _ h => h) (Or.inl ⟨by rfl, ?_⟩) (by assumption) ?_
  rotate_left
  · (intro wx hSw; have c9 := hSw.c0; go_simp; (try with_reducible rfl))
  (try simp only [Act.put, List.setIfInBounds_toArray, List.set_cons_zero, List.set_cons_succ])
  refine wpAnyM_take 2 (v := ?_) rfl (by kernel_rfl) (fun _ _ _ h => h) (Or.inl ⟨by rfl, ?_⟩) (by assumption) ?_
  rotate_left
  · (intro wx hSw; (try dsimp only at hSw); go_simp; (try with_reducible rfl))
  (try simp only [Act.put, List.setIfInBounds_toArray, List.set_cons_zero, List.set_cons_succ])
  refine wpAnyM_take 3 (v := ?_) rfl (by kernel_rfl) (fun _ _ _ h => h) (Or.inl ⟨by rfl, ?_⟩) (by assumption) ?_
  rotate_left
  · (intro wx hSw; (try dsimp only at hSw); go_simp; (try with_reducible rfl))
  (try simp only [Act.put, List.setIfInBounds_toArray, List.set_cons_zero, List.set_cons_succ])
  first | (refine wpAnyM_take 4 (v := ?_) rfl (by kernel_rfl) (fun _ _ _ h => h) (Or.inl ⟨by rfl, ?_⟩) (by assumption) ?_; rotate_left; focus ((intro wx hSw; (try dsimp only at hSw); go_simp; (try with_reducible rfl)))) | (refine wpAnyM_take 4 rfl (by kernel_rfl) (fun _ _ _ h => h) (Or.inr ⟨by rfl, rfl⟩) (by assumption) ?_)
  (try simp only [Act.put, List.setIfInBounds_toArray, List.set_cons_zero, List.set_cons_succ])
  first | (refine wpAnyM_take 5 (v := ?_) rfl (by kernel_rfl) (fun _ _ _ h => h) (Or.inl ⟨by rfl, ?_⟩) (by assumption) ?_; rotate_left; focus ((intro wx hSw; (try dsimp only at hSw); go_simp; (try with_reducible rfl)))) | (refine wpAnyM_take 5 rfl (by kernel_rfl) (fun _ _ _ h => h) (Or.inr ⟨by rfl, rfl⟩) (by assumption) ?_)
  (try simp only [Act.put, List.setIfInBounds_toArray, List.set_cons_zero, List.set_cons_succ])
  first | (refine wpAnyM_take 6 (v := ?_) rfl (by kernel_rfl) (fun _ _ _ h => h) (Or.inl ⟨by rfl, ?_⟩) (by assumption) ?_; rotate_left; focus ((intro wx hSw; (try dsimp only at hSw); go_simp; (try with_reducible rfl)))) | (refine wpAnyM_take 6 rfl (by kernel_rfl) (fun _ _ _ h => h) (Or.inr ⟨by rfl, rfl⟩) (by assumption) ?_)
  (try simp only [Act.put, List.setIfInBounds_toArray, List.set_cons_zero, List.set_cons_succ])
  first | (refine wpAnyM_take 7 (v := ?_) rfl (by kernel_rfl) (fun _ _ _ h => h) (Or.inl ⟨by rfl, ?_⟩) (by assumption) ?_; rotate_left; focus ((intro wx hSw; have c9 := hSw.c0; go_simp; (try with_reducible rfl)))) | (refine wpAnyM_take 7 rfl (by kernel_rfl) (fun _ _ _ h => h) (Or.inr ⟨by rfl, rfl⟩) (by assumption) ?_)
  (try simp only [Act.put, List.setIfInBounds_toArray, List.set_cons_zero, List.set_cons_succ])
  refine wpAnyM_take 8 (v := ?_) rfl (by kernel_rfl) (fun _ _ _ h => h) (Or.inl ⟨by rfl, ?_⟩) (by assumption) ?_
  rotate_left
  · (intro wx hSw; (try dsimp only at hSw); go_simp; (try with_reducible rfl))
  (try simp only [Act.put, List.setIfInBounds_toArray, List.set_cons_zero, List.set_cons_succ])
  refine wpAnyM_take 9 (v := ?_) rfl (by kernel_rfl) (fun _ _ _ h => h) (Or.inl ⟨by rfl, ?_⟩) (by assumption) ?_
  rotate_left
  · (intro wx hSw; (try dsimp only at hSw); go_simp; (try with_reducible rfl))
  (try simp only [Act.put, List.setIfInBounds_toArray, List.set_cons_zero, List.set_cons_succ])
  first | (refine wpAnyM_take 10 (v := ?_) rfl (by kernel_rfl) (fun _ _ _ h => h) (Or.inl ⟨by rfl, ?_⟩) (by assumption) ?_; rotate_left; focus ((intro wx hSw; (try dsimp only at hSw); go_simp; (try with_reducible rfl)))) | (refine wpAnyM_take 10 rfl (by kernel_rfl) (fun _ _ _ h => h) (Or.inr ⟨by rfl, rfl⟩) (by assumption) ?_)
  (try simp only [Act.put, List.setIfInBounds_toArray, List.set_cons_zero, List.set_cons_succ])
  first | (refine wpAnyM_take 11 (v := ?_) rfl (by kernel_rfl) (fun _ _ _ h => h) (Or.inl ⟨by rfl, ?_⟩) (by assumption) ?_; rotate_left; focus ((intro wx hSw; have c9 := hSw.c0; go_simp; (try with_reducible rfl)))) | (refine wpAnyM_take 11 rfl (by kernel_rfl) (fun _ _ _ h => h) (Or.inr ⟨by rfl, rfl⟩) (by assumption) ?_)
  (try simp only [Act.put, List.setIfInBounds_toArray, List.set_cons_zero, List.set_cons_succ])
  first | (refine wpAnyM_take 12 (v := ?_) rfl (by kernel_rfl) (fun _ _ _ h => h) (Or.inl ⟨by rfl, ?_⟩) (by assumption) ?_; rotate_left; focus ((intro wx hSw; (try dsimp only at hSw); go_simp; (try with_reducible rfl)))) | (refine wpAnyM_take 12 rfl (by kernel_rfl) (fun _ _ _ h => h) (Or.inr ⟨by rfl, rfl⟩) (by assumption) ?_)
  (try simp only [Act.put, List.setIfInBounds_toArray, List.set_cons_zero, List.set_cons_succ])
  refine wpAnyM_take 13 (v := ?_) rfl (by kernel_rfl) (fun _ _ _ h => h) (Or.inl ⟨by rfl, ?_⟩) (by assumption) ?_
  rotate_left
  · (intro wx hSw; (try dsimp only at hSw); go_simp; (try with_reducible rfl))
  (try simp only [Act.put, List.setIfInBounds_toArray, List.set_cons_zero, List.set_cons_succ])
  refine wpAnyM_take 14 (v := ?_) rfl (by kernel_rfl) (fun _ _ _ h => h) (Or.inl ⟨by rfl, ?_⟩) (by assumption) ?_
  rotate_left
  · (intro wx hSw; (try dsimp only at hSw); go_simp; (try with_reducible rfl))
  (try simp only [Act.put, List.setIfInBounds_toArray, List.set_cons_zero, List.set_cons_succ])
  first | (refine wpAnyM_take 15 (v := ?_) rfl (by kernel_rfl) (fun _ _ _ h => h) (Or.inl ⟨by rfl, ?_⟩) (by assumption) ?_; rotate_left; focus ((intro wx hSw; (try dsimp only at hSw); go_simp; (try with_reducible rfl)))) | (refine wpAnyM_take 15 rfl (by kernel_rfl) (fun _ _ _ h => h) (Or.inr ⟨by rfl, rfl⟩) (by assumption) ?_)
  (try simp only [Act.put, List.setIfInBounds_toArray, List.set_cons_zero, List.set_cons_succ])
  first | (refine wpAnyM_take 16 (v := ?_) rfl (by kernel_rfl) (fun _ _ _ h => h) (Or.inl ⟨by rfl, ?_⟩) (by assumption) ?_; rotate_left; focus ((intro wx hSw; have c9 := hSw.c0; go_simp; (try with_reducible rfl)))) | (refine wpAnyM_take 16 rfl (by kernel_rfl) (fun _ _ _ h => h) (Or.inr ⟨by rfl, rfl⟩) (by assumption) ?_)
  (try simp only [Act.put, List.setIfInBounds_toArray, List.set_cons_zero, List.set_cons_succ])
  first | (refine wpAnyM_take 17 (v := ?_) rfl (by kernel_rfl) (fun _ _ _ h => h) (Or.inl ⟨by rfl, ?_⟩) (by assumption) ?_; rotate_left; focus ((intro wx hSw; (try dsimp only at hSw); go_simp; (try with_reducible rfl)))) | (refine wpAnyM_take 17 rfl (by kernel_rfl) (fun _ _ _ h => h) (Or.inr ⟨by rfl, rfl⟩) (by assumption) ?_)
  (try simp only [Act.put, List.setIfInBounds_toArray, List.set_cons_zero, List.set_cons_succ])
  refine wpAnyM_take 18 (v := ?_) rfl (by kernel_rfl) (fun _ _ _ h => h) (Or.inl ⟨by rfl, ?_⟩) (by assumption) ?_
  rotate_left
  · (intro wx hSw; (try dsimp only at hSw); go_simp; (try with_reducible rfl))
  (try simp only [Act.put, List.setIfInBounds_toArray, List.set_cons_zero, List.set_cons_succ])
  refine wpAnyM_take 19 (v := ?_) rfl (by kernel_rfl) (fun _ _ _ h => h) (Or.inl ⟨by rfl, ?_⟩) (by assumption) ?_
  rotate_left
  · (intro wx hSw; (try dsimp only at hSw); go_simp; (try with_reducible rfl))
  (try simp only [Act.put, List.setIfInBounds_toArray, List.set_cons_zero, List.set_cons_succ])
  first | (refine wpAnyM_take 20 (v := ?_) rfl (by kernel_rfl) (fun _ _ _ h => h) (Or.inl ⟨by rfl, ?_⟩) (by assumption) ?_; rotate_left; focus ((intro wx hSw; (try dsimp only at hSw); go_simp; (try with_reducible rfl)))) | (refine wpAnyM_take 20 rfl (by kernel_rfl) (fun _ _ _ h => h) (Or.inr ⟨by rfl, rfl⟩) (by assumption) ?_)
  (try simp only [Act.put, List.setIfInBounds_toArray, List.set_cons_zero, List.set_cons_succ])
  first | (refine wpAnyM_take 21 (v := ?_) rfl (by kernel_rfl) (fun _ _ _ h => h) (Or.inl ⟨by rfl, ?_⟩) (by assumption) ?_; rotate_left; focus ((intro wx hSw; have c9 := hSw.c0; go_simp; (try with_reducible rfl)))) | (refine wpAnyM_take 21 rfl (by kernel_rfl) (fun _ _ _ h => h) (Or.inr ⟨by rfl, rfl⟩) (by assumption) ?_)
  (try simp only [Act.put, List.setIfInBounds_toArray, List.set_cons_zero, List.set_cons_succ])
  first | (refine wpAnyM_take 22 (v := ?_) rfl (by kernel_rfl) (fun _ _ _ h => h) (Or.inl ⟨by rfl, ?_⟩) (by assumption) ?_; rotate_left; focus ((intro wx hSw; (try dsimp only at hSw); go_simp; (try with_reducible rfl)))) | (refine wpAnyM_take 22 rfl (by kernel_rfl) (fun _ _ _ h => h) (Or.inr ⟨by rfl, rfl⟩) (by assumption) ?_)
  (try simp only [Act.put, List.setIfInBounds_toArray, List.set_cons_zero, List.set_cons_succ])
  refine wpAnyM_take 23 (v := ?_) rfl (by kernel_rfl) (fun _ _ _ h => h) (Or.inl ⟨by rfl, ?_⟩) (by assumption) ?_
  rotate_left
  · (intro wx hSw; (try dsimp only at hSw); go_simp; (try with_reducible rfl))
  (try simp only [Act.put, List.setIfInBounds_toArray, List.set_cons_zero, List.set_cons_succ])
  refine wpAnyM_take 24 (v := ?_) rfl (by kernel_rfl) (fun _ _ _ h => h) (Or.inl ⟨by rfl, ?_⟩) (by assumption) ?_
  rotate_left
  · (intro wx hSw; (try dsimp only at hSw); go_simp; (try with_reducible rfl))
  (try simp only [Act.put, List.setIfInBounds_toArray, List.set_cons_zero, List.set_cons_succ])
  first | (refine wpAnyM_take 25 (v := ?_) rfl (by kernel_rfl) (fun _ _ _ h => h) (Or.inl ⟨by rfl, ?_⟩) (by assumption) ?_; rotate_left; focus ((intro wx hSw; refine Eq.trans (run_load_row 27 (.tmp 2) (by rfl) (sb) (by rfl) _ _ _ _ (hSw.s) Try.underlying27 rfl (ist.trans (by rw [arrv_size]))) ?_; with_reducible rfl))) | (refine wpAnyM_take 25 rfl (by kernel_rfl) (fun _ _ _ h => h) (Or.inr ⟨by rfl, rfl⟩) (by assumption) ?_)
  (try simp only [Act.put, List.setIfInBounds_toArray, List.set_cons_zero, List.set_cons_succ])
  first | (refine wpAnyM_take 27 (v := ?_) rfl (by kernel_rfl) (fun _ _ _ h => h) (Or.inl ⟨by rfl, ?_⟩) (by assumption) ?_; rotate_left; focus ((intro wx hSw; go_simp; rw [zv3]))) | (refine wpAnyM_take 27 rfl (by kernel_rfl) (fun _ _ _ h => h) (Or.inr ⟨by rfl, rfl⟩) (by assumption) ?_)
  (try simp only [Act.put, List.setIfInBounds_toArray, List.set_cons_zero, List.set_cons_succ])
  refine wpAnyM_oneS 26 rfl (by kernel_rfl) (fun K hK => ?_)
  go_simp
  (refine (part_any s15 23 _ (by decide) (by decide)).mono ?_); rintro e w7 ⟨rfl, hb7⟩; have R7 := Lib.hid ((R6.out.down (Below.drew (Below.refl _ _))).down hb7); have B7 := Lib.hid (Below.after B6.out.drew hb7); clear hb7
  (try dsimp only)
  (try simp only [Act.put, List.setIfInBounds_toArray, List.set_cons_zero, List.set_cons_succ])
  clear hHeld
  refine hK.out _ _ ?_ (fun hHeld => ?_)
  · exact R7.out
  clear hK K
  (try simp only [Act.put, List.setIfInBounds_toArray, List.set_cons_zero, List.set_cons_succ])
  first | (refine wpAnyM_take 28 (v := ?_) rfl (by kernel_rfl) (fun _ _ _ h => h) (Or.inl ⟨by rfl, ?_⟩) (by assumption) ?_; rotate_left; focus ((intro wx hSw; refine Eq.trans (run_op_eqlVec Try.underlying32 (by kernel_rfl) (.tmp 38) (.tmp 39) (by rfl) (by rfl) (by rfl) E.out.1) ?_; with_reducible rfl))) | (refine wpAnyM_take 28 rfl (by kernel_rfl) (fun _ _ _ h => h) (Or.inr ⟨by rfl, rfl⟩) (by assumption) ?_)
  (try simp only [Act.put, List.setIfInBounds_toArray, List.set_cons_zero, List.set_cons_succ])
  refine wpAnyM_take 29 (v := ?_) rfl (by kernel_rfl) (fun _ _ _ h => h) (Or.inl ⟨by rfl, ?_⟩) (by assumption) ?_
  rotate_left
  · (intro wx hSw; (try dsimp only at hSw); go_simp; (try with_reducible rfl))
  (try simp only [Act.put, List.setIfInBounds_toArray, List.set_cons_zero, List.set_cons_succ])
  refine wpAnyM_take 30 (v := ?_) rfl (by kernel_rfl) (fun _ _ _ h => h) (Or.inl ⟨by rfl, ?_⟩) (by assumption) ?_
  rotate_left
  · (intro wx hSw; (try dsimp only at hSw); go_simp; (try with_reducible rfl))
  (try simp only [Act.put, List.setIfInBounds_toArray, List.set_cons_zero, List.set_cons_succ])
  first | (refine wpAnyM_take 31 (v := ?_) rfl (by kernel_rfl) (fun _ _ _ h => h) (Or.inl ⟨by rfl, ?_⟩) (by assumption) ?_; rotate_left; focus ((intro wx hSw; refine Eq.trans (run_load_row 27 (.tmp 2) (by rfl) (sb) (by rfl) _ _ _ _ (hSw.s) Try.underlying27 rfl (ist.trans (by rw [arrv_size]))) ?_; with_reducible rfl))) | (refine wpAnyM_take 31 rfl (by kernel_rfl) (fun _ _ _ h => h) (Or.inr ⟨by rfl, rfl⟩) (by assumption) ?_)
  (try simp only [Act.put, List.setIfInBounds_toArray, List.set_cons_zero, List.set_cons_succ])
  first | (refine wpAnyM_take 34 (v := ?_) rfl (by kernel_rfl) (fun _ _ _ h => h) (Or.inl ⟨by rfl, ?_⟩) (by assumption) ?_; rotate_left; focus ((intro wx hSw; refine Eq.trans (run_load_row 27 (.tmp 2) (by rfl) (sb) (by rfl) _ _ _ _ (hSw.s) Try.underlying27 rfl (ist.trans (by rw [arrv_size]))) ?_; with_reducible rfl))) | (refine wpAnyM_take 34 rfl (by kernel_rfl) (fun _ _ _ h => h) (Or.inr ⟨by rfl, rfl⟩) (by assumption) ?_)
  (try simp only [Act.put, List.setIfInBounds_toArray, List.set_cons_zero, List.set_cons_succ])
  refine wpAnyM_oneS 32 rfl (by kernel_rfl) (fun K hK => ?_)
  go_simp
  clear hHeld
  refine hK.out _ _ ?_ (fun hHeld => ?_)
  · exact R7.out.down ((Below.refl _ _).alloc (Nat.le_refl _) _)
  clear hK K
  (try simp only [Act.put, List.setIfInBounds_toArray, List.set_cons_zero, List.set_cons_succ])
  refine wpAnyM_oneS 33 rfl (by kernel_rfl) (fun K hK => ?_)
  go_simp
  have L9 : Slc (w7.alloc (.cells #[.int .i64 5] 2)) (some ⟨w7.heap.size, 0, none⟩) 1 (fun _ => 5) := (by intro i hi; obtain rfl : i = 0 := (by omega); exact ⟨_, _, rfl, by simp [go_sem]⟩); (refine (swith_any s15 24 _ 1 _ (fun _ => 5) _ (by decide) (by decide) (by decide) L9).mono ?_); rintro e w8 ⟨rfl, hb8⟩; have R8 := Lib.hid ((R7.out.down ((Below.refl _ _).alloc (Nat.le_refl _) _)).down hb8); have B8 := Lib.hid (Below.after (B7.out.alloc B7.out.size _) hb8); clear hb8 L9
  (try dsimp only)
  (try simp only [Act.put, List.setIfInBounds_toArray, List.set_cons_zero, List.set_cons_succ])
  clear hHeld
  refine hK.out _ _ ?_ (fun hHeld => ?_)
  · exact R8.out
  clear hK K
  (try simp only [Act.put, List.setIfInBounds_toArray, List.set_cons_zero, List.set_cons_succ])
  first | (refine wpAnyM_take 35 (v := ?_) rfl (by kernel_rfl) (fun _ _ _ h => h) (Or.inl ⟨by rfl, ?_⟩) (by assumption) ?_; rotate_left; focus ((intro wx hSw; refine Eq.trans (run_op_eqlVec Try.underlying27 (by kernel_rfl) (.tmp 45) (.tmp 46) (by rfl) (by rfl) (by rfl) E.out.2) ?_; with_reducible rfl))) | (refine wpAnyM_take 35 rfl (by kernel_rfl) (fun _ _ _ h => h) (Or.inr ⟨by rfl, rfl⟩) (by assumption) ?_)
  (try simp only [Act.put, List.setIfInBounds_toArray, List.set_cons_zero, List.set_cons_succ])
  refine wpAnyM_take 36 (v := ?_) rfl (by kernel_rfl) (fun _ _ _ h => h) (Or.inl ⟨by rfl, ?_⟩) (by assumption) ?_
  rotate_left
  · (intro wx hSw; (try dsimp only at hSw); go_simp; (try with_reducible rfl))
  (try simp only [Act.put, List.setIfInBounds_toArray, List.set_cons_zero, List.set_cons_succ])
  refine wpAnyM_one 37 rfl (by kernel_rfl) (fun K hK => ?_)
  go_simp
  refine hK.out _ _ (.inl (by kernel_rfl)) (fun _ => ?_)
  clear hK K
  (try simp only [Act.put, List.setIfInBounds_toArray, List.set_cons_zero, List.set_cons_succ])
  refine wpAnyM_done (by kernel_rfl) ?_ _
  go_wp2_with fail
  go_ret
  exact ⟨rfl, B8.out⟩
end Go.Proofs.Ytcbklolfibdffaa
