/- Contracts of package state (6): Part, With. -/
import Derived.Test.YtcbklolfibdffaaSt5
namespace Go.Proofs.Ytcbklolfibdffaa
open Go.RowKit
set_option maxRecDepth 100000
theorem iv3 : (Try.prog.info? 32).map (·.size) = some 3 := by kernel_rfl
theorem zv3 : (#[.int .i64 0, .int .i64 0, .int .i64 0] : Array Value) = arrv 3 (fun _ => 0) := by kernel_rfl
/-- Three numbers of a state, from number a on. -/
def partF (S : Nat → Int) (a : Int) : Nat → Int := fun k => if 0 ≤ a + k ∧ a + k < 24 then S (a + k).toNat else 0
def partI (S : Nat → Int) (a : Int) (m : Nat) : Nat → Int := fun k => if k < m then partF S a k else 0
/-- Numbers put in from number a on: the first n of L. -/
def withF (S : Nat → Int) (a : Int) (n : Nat) (L : Nat → Int) : Nat → Int := fun i => if a ≤ i ∧ i < a + n then L ((i : Int) - a).toNat else S i
structure PtR (B : Nat) (S g : Nat → Int) (w wr : World) : Prop where
  below : Below w.heap.size w wr
  sB : Blk wr w.heap.size 27 24 S
  rB : Blk wr (w.heap.size + 1) 32 3 (fun _ => 0)
  vB : Blk wr (w.heap.size + 1 + 1) 32 3 g
set_option maxHeartbeats 2000000 in
theorem part_any (S : Nat → Int) (a : Int) (w : World) (a0 : -1000000 ≤ a) (a1 : a ≤ 1000000) :
    Calls Try.prog 10 #[.agg (arrv 24 S), .int .i64 a] w fun e w' => e = .returned (.agg (arrv 3 (partF S a))) ∧ Below w.heap.size w w' := by
  go_enter Try.func10, Try.ntmps10
  go_upto_region 2 with fail
  have R0 : Hid (PtR 0 S (partI S a 0) w (((w.alloc (.cells (arrv 24 S) 27)).alloc (.cells #[.int .i64 0, .int .i64 0, .int .i64 0] 32)).alloc (.cells #[.int .i64 0, .int .i64 0, .int .i64 0] 32))) := Lib.hid
    ⟨by (repeat (first | with_reducible exact Below.refl _ _ | with_reducible apply Below.drew | (with_reducible refine below_drewN ?_ _) | (with_reducible refine Below.alloc ?_ (by (try simp) <;> omega) _) | (with_reducible refine Below.setCell ?_ (by (try simp) <;> omega) _))), ((Blk.new w _ _ _).alloc _).alloc _, by rw [zv3]; exact (Blk.new1 w _ _ _ _).alloc _, by rw [zv3]; exact (blk_new2 w _ _ _ _ _).congr fun i hi => by simp [partI]⟩
  generalize ((w.alloc (.cells (arrv 24 S) 27)).alloc (.cells #[.int .i64 0, .int .i64 0, .int .i64 0] 32)).alloc (.cells #[.int .i64 0, .int .i64 0, .int .i64 0] 32) = W0 at *
  go_wp2_with fail
  go_loopw [8] (fun i wr => ∃ k : Nat, k ≤ 3 ∧ i = .int .i64 k ∧ Hid (PtR 0 S (partI S a k) w wr)) (fun i _ => 3 - (intOf i).toNat)
  case atStart => exact ⟨0, by omega, rfl, R0.out⟩
  case round =>
    obtain ⟨k, hk, rfl, R⟩ := hrel
    by_cases hlt : k < 3
    · have d1 : decide ((k : Int) < 3) = true := by simp; omega
      have k0 : (0 : Int) ≤ (k : Int) := Int.natCast_nonneg _
      have k1 : (k : Int) < 3 := by omega
      have v0 := R.out.vB.cell (i := k) (by omega)
      have v1 := R.out.vB.free k
      by_cases h1 : 0 ≤ a + (k : Int)
      · by_cases h2 : a + (k : Int) < 24
        · have e1 : decide (0 ≤ a + (k : Int)) = true := by simpa using h1
          have e2 : decide (a + (k : Int) < 24) = true := by simpa using h2
          have s0 := R.out.sB.cell (i := (a + (k : Int)).toNat) (by omega)
          have EP := Lib.hid (show partF S a k = S (a + (k : Int)).toNat by unfold partF; rw [if_pos ⟨h1, h2⟩])
          go_wp2_with fail
          go_roundw
          case rel =>
            refine ⟨k + 1, by omega, by go_num, R.out.below.setCell (by simp; omega) _, R.out.sB.other (by simp; omega) _, R.out.rB.other (by simp) _, (R.out.vB.set _ _).congr fun i hi => ?_⟩
            simp only [Go.Proofs.Ytcbklolfibdffaa.upd, partI]
            by_cases h : i = k
            · subst h; rw [if_pos rfl, if_pos (by omega), EP.out]
            · rw [if_neg h]; split <;> split <;> first | rfl | omega
          case measure => simp [intOf]; omega
        · have e1 : decide (0 ≤ a + (k : Int)) = true := by simpa using h1
          have e2 : decide (a + (k : Int) < 24) = false := by simpa using h2
          have EP := Lib.hid (show partF S a k = 0 by unfold partF; rw [if_neg (by omega)])
          go_wp2_with fail
          go_roundw
          case rel =>
            refine ⟨k + 1, by omega, by go_num, R.out.below, R.out.sB, R.out.rB, R.out.vB.congr fun i hi => ?_⟩
            simp only [partI]
            by_cases h : i = k
            · subst h; rw [if_neg (by omega), if_pos (by omega), EP.out]
            · split <;> split <;> first | rfl | omega
          case measure => simp [intOf]; omega
      · have e1 : decide (0 ≤ a + (k : Int)) = false := by simpa using h1
        have EP := Lib.hid (show partF S a k = 0 by unfold partF; rw [if_neg (by omega)])
        go_wp2_with fail
        go_roundw
        case rel =>
          refine ⟨k + 1, by omega, by go_num, R.out.below, R.out.sB, R.out.rB, R.out.vB.congr fun i hi => ?_⟩
          simp only [partI]
          by_cases h : i = k
          · subst h; rw [if_neg (by omega), if_pos (by omega), EP.out]
          · split <;> split <;> first | rfl | omega
        case measure => simp [intOf]; omega
    · have hk3 : k = 3 := by omega
      subst hk3
      rw [show ((3 : Nat) : Int) = 3 from rfl]
      have V := R.out.vB
      have X := R.out.rB
      have B := Lib.hid R.out.below
      clear R hk hlt R0
      go_wp2_with (first | (refine wpList_load_row rfl 32 _ rfl (w.heap.size + 1 + 1) rfl 32 _ (0, 0) _ (V) Try.underlying32 rfl (iv3.trans (by rw [arrv_size])) ?_) | (refine wpList_store_row rfl 32 _ _ rfl (w.heap.size + 1) _ rfl rfl 32 _ (X) (iv3.trans (by rw [arrv_size])) (by rw [arrv_size, arrv_size]) (oneCell_arrv _ _) ?_))
      refine bodyPost_ret (results_cell_row Try.results10 _ _ (w.heap.size + 1) 32 (arrv 3 (partI S a 3)) (0, 0) _ rfl (setRow_heap _ _ _ _ _ _ X) Try.underlying32 rfl (iv3.trans (by rw [arrv_size]))) rfl ⟨?_, below_row B.out (by omega) _⟩
      rw [arrv_congr (g := partF S a) fun i hi => by simp only [partI]; rw [if_pos hi]]
structure WhR (S g : Nat → Int) (w wr : World) : Prop where
  below : Below w.heap.size w wr
  sB : Blk wr w.heap.size 27 24 g
  rB : Blk wr (w.heap.size + 1) 27 24 (fun _ => 0)
set_option maxHeartbeats 2000000 in
theorem swith_any (S : Nat → Int) (a : Int) (p : Option Addr) (n cp : Nat) (L : Nat → Int) (w : World) (a0 : -1000000 ≤ a) (a1 : a ≤ 1000000) (hn : n ≤ 1000) (hL : Slc w p n L) :
    Calls Try.prog 11 #[.agg (arrv 24 S), .int .i64 a, .slice p n cp] w fun e w' => e = .returned (.agg (arrv 24 (withF S a n L))) ∧ Below w.heap.size w w' := by
  have HL := Lib.hid hL
  clear hL
  go_enter Try.func11, Try.ntmps11
  go_upto_region 1 with fail
  have R0 : Hid (WhR S (withF S a 0 L) w ((w.alloc (.cells (arrv 24 S) 27)).alloc (.cells #[.int .i64 0, .int .i64 0, .int .i64 0, .int .i64 0, .int .i64 0, .int .i64 0, .int .i64 0, .int .i64 0, .int .i64 0, .int .i64 0, .int .i64 0, .int .i64 0, .int .i64 0, .int .i64 0, .int .i64 0, .int .i64 0, .int .i64 0, .int .i64 0, .int .i64 0, .int .i64 0, .int .i64 0, .int .i64 0, .int .i64 0, .int .i64 0] 27))) := Lib.hid
    ⟨by (repeat (first | with_reducible exact Below.refl _ _ | with_reducible apply Below.drew | (with_reducible refine below_drewN ?_ _) | (with_reducible refine Below.alloc ?_ (by (try simp) <;> omega) _) | (with_reducible refine Below.setCell ?_ (by (try simp) <;> omega) _))), ((Blk.new w _ _ _).alloc _).congr fun i hi => by unfold withF; rw [if_neg (by omega)], by rw [zvec24]; exact Blk.new1 w _ _ _ _⟩
  generalize (w.alloc (.cells (arrv 24 S) 27)).alloc (.cells #[.int .i64 0, .int .i64 0, .int .i64 0, .int .i64 0, .int .i64 0, .int .i64 0, .int .i64 0, .int .i64 0, .int .i64 0, .int .i64 0, .int .i64 0, .int .i64 0, .int .i64 0, .int .i64 0, .int .i64 0, .int .i64 0, .int .i64 0, .int .i64 0, .int .i64 0, .int .i64 0, .int .i64 0, .int .i64 0, .int .i64 0, .int .i64 0] 27) = W0 at *
  go_wp2_with fail
  go_loopw [12] (fun i wr => ∃ k : Nat, k ≤ n ∧ i = .int .i64 k ∧ Hid (WhR S (withF S a k L) w wr)) (fun i _ => n - (intOf i).toNat)
  case atStart => exact ⟨0, by omega, rfl, R0.out⟩
  case round =>
    obtain ⟨k, hk, rfl, R⟩ := hrel
    by_cases hlt : k < n
    · obtain ⟨pb, po, rfl, hcell⟩ := HL.out k hlt
      have k0 : (0 : Int) ≤ (k : Int) := Int.natCast_nonneg _
      have k1 : (k : Int) < 1000 := by omega
      have hl0 := (R.out.below.cell (World.block_lt_of_cell? _ _ hcell)).trans hcell
      by_cases h1 : 0 ≤ a + (k : Int)
      · by_cases h2 : a + (k : Int) < 24
        · have e1 : decide (0 ≤ a + (k : Int)) = true := by simpa using h1
          have e2 : decide (a + (k : Int) < 24) = true := by simpa using h2
          have s0 := R.out.sB.cell (i := (a + (k : Int)).toNat) (by omega)
          have s1 := R.out.sB.free (a + (k : Int)).toNat
          clear hcell
          go_wp2_with fail
          go_roundw
          case rel =>
            refine ⟨k + 1, by omega, by go_num, R.out.below.setCell (by simp) _, (R.out.sB.set _ _).congr fun i hi => ?_, R.out.rB.other (by simp) _⟩
            simp only [Go.Proofs.Ytcbklolfibdffaa.upd, withF]
            by_cases h : i = (a + (k : Int)).toNat
            · rw [if_pos h, if_pos (by omega)]; congr 1; omega
            · rw [if_neg h]; split <;> split <;> first | rfl | omega
          case measure => simp [intOf]; omega
        · have e1 : decide (0 ≤ a + (k : Int)) = true := by simpa using h1
          have e2 : decide (a + (k : Int) < 24) = false := by simpa using h2
          clear hcell
          go_wp2_with fail
          go_roundw
          case rel =>
            refine ⟨k + 1, by omega, by go_num, R.out.below, R.out.sB.congr fun i hi => ?_, R.out.rB⟩
            simp only [withF]
            split <;> split <;> first | rfl | omega
          case measure => simp [intOf]; omega
      · have e1 : decide (0 ≤ a + (k : Int)) = false := by simpa using h1
        clear hcell
        go_wp2_with fail
        go_roundw
        case rel =>
          refine ⟨k + 1, by omega, by go_num, R.out.below, R.out.sB.congr fun i hi => ?_, R.out.rB⟩
          simp only [withF]
          split <;> split <;> first | rfl | omega
        case measure => simp [intOf]; omega
    · have hkn : k = n := by omega
      subst hkn
      have V := R.out.sB
      have X := R.out.rB
      have B := Lib.hid R.out.below
      clear R hk hlt R0
      go_wp2_with (first | (refine wpList_load_row rfl 27 _ rfl (w.heap.size) rfl 27 _ (0, 0) _ (V) Try.underlying27 rfl (ist.trans (by rw [arrv_size])) ?_) | (refine wpList_store_row rfl 27 _ _ rfl (w.heap.size + 1) _ rfl rfl 27 _ (X) (ist.trans (by rw [arrv_size])) (by rw [arrv_size, arrv_size]) (oneCell_arrv _ _) ?_))
      refine bodyPost_ret (results_cell_row Try.results11 _ _ (w.heap.size + 1) 27 (arrv 24 (withF S a k L)) (0, 0) _ rfl (setRow_heap _ _ _ _ _ _ X) Try.underlying27 rfl (ist.trans (by rw [arrv_size]))) rfl ⟨rfl, below_row B.out (by omega) _⟩
end Go.Proofs.Ytcbklolfibdffaa
