/- Contract of state.Bounds. -/
import Derived.Test.YtcbklolfibdffaaLdR
import Derived.Test.YtcbklolfibdffaaLaw
import Derived.Deep.Cut
import Derived.Deep.CutRange
namespace Go.Proofs.Ytcbklolfibdffaa
open Go.RowKit
set_option maxRecDepth 100000
theorem ibox : (Try.prog.info? 29).map (·.size) = some 24 := by kernel_rfl
theorem zvec24 : (#[.int .i64 0, .int .i64 0, .int .i64 0, .int .i64 0, .int .i64 0, .int .i64 0, .int .i64 0, .int .i64 0, .int .i64 0, .int .i64 0, .int .i64 0, .int .i64 0, .int .i64 0, .int .i64 0, .int .i64 0, .int .i64 0, .int .i64 0, .int .i64 0, .int .i64 0, .int .i64 0, .int .i64 0, .int .i64 0, .int .i64 0, .int .i64 0] : Array Value) = arrv 24 (fun _ => 0) := by kernel_rfl
theorem Blk.belowB {w w' : World} {b T n B : Nat} {f : Nat → Int} (h : Blk w b T n f) (hb : Below B w w') (hB : b < B) : Blk w' b T n f := (hb.block b hB).trans h
/-- From a to b the numbers are m. -/
def filF (f : Nat → Int) (a b : Nat) (m : Int) : Nat → Int := fun i => if a ≤ i ∧ i < b then m else f i
theorem bfill_any (f : Nat → Int) (a b : Nat) (m : Int) (g : Nat) (w : World) (hab : a ≤ b) (hb : b ≤ 24) (hB : Blk w g 29 24 f) :
    Calls Try.prog 20 #[.int .i64 a, .int .i64 b, .int .i64 m, .pointer (some ⟨g, 0, none⟩)] w fun e w' =>
      e = .returned (.tuple #[]) ∧ Below g w w' ∧ w'.heap.size = w.heap.size ∧ Blk w' g 29 24 (filF f a b m) := by
  have HB := Lib.hid hB
  clear hB
  go_enter Try.func20, Try.ntmps20
  go_wp2_with fail
  go_loopw [7] (fun i wr => ∃ k : Nat, a ≤ k ∧ k ≤ b ∧ i = .int .i64 k ∧ Hid (Below g w wr ∧ wr.heap.size = w.heap.size ∧ Blk wr g 29 24 (filF f a k m))) (fun i _ => b - (intOf i).toNat)
  case atStart => exact ⟨a, Nat.le_refl _, hab, rfl, Below.refl _ _, rfl, HB.out.congr fun i hi => by simp [filF]; omega⟩
  case round =>
    obtain ⟨k, hk0, hk, rfl, R⟩ := hrel
    by_cases hlt : k < b
    · have b0 := R.out.2.2.cell (i := k) (by omega)
      have b1 := R.out.2.2.free k
      have d1 : decide (k < b) = true := by simpa using hlt
      go_wp2_with fail
      go_roundw
      case rel =>
        refine ⟨k + 1, by omega, by omega, by go_num, R.out.1.setCell (Nat.le_refl _) _, by rw [setCell_size]; exact R.out.2.1, (R.out.2.2.set k m).congr fun i hi => ?_⟩
        simp only [Go.Proofs.Ytcbklolfibdffaa.upd, filF]
        by_cases h1 : i = k
        · subst h1; rw [if_pos rfl, if_pos (by omega)]
        · rw [if_neg h1]; split <;> split <;> first | rfl | omega
      case measure => simp [intOf]; omega
    · have hkb : k = b := by omega
      subst hkb
      have d1 : decide (k < k) = false := by simp
      go_wp2_with fail
      go_end0
      exact ⟨rfl, R.out.1, R.out.2.1, R.out.2.2⟩
/-- The box. -/
def boxF : Nat → Int := fun i => if i < 4 then 1073741840 else if i < 7 then 549755813888 else if i < 10 then 9007199254740992 else if i < 13 then 134217728 else if i < 16 then 1073741824 else if i < 22 then 2147483648 else 137438953472
set_option maxHeartbeats 1000000 in
theorem bounds_any (w : World) : Calls Try.prog 9 #[] w fun e w' => e = .returned (.agg (arrv 24 boxF)) ∧ Below w.heap.size w w' := by
  have hmf : ∀ (fn : Fn) (first cap : Array Value) (w : World), (Instr.makeFunc fn first cap).run Try.prog w = .ok (.func fn first cap) w := fun _ _ _ _ => rfl
  have S0 : Blk ((w.alloc (.cells #[.int .i64 0, .int .i64 0, .int .i64 0, .int .i64 0, .int .i64 0, .int .i64 0, .int .i64 0, .int .i64 0, .int .i64 0, .int .i64 0, .int .i64 0, .int .i64 0, .int .i64 0, .int .i64 0, .int .i64 0, .int .i64 0, .int .i64 0, .int .i64 0, .int .i64 0, .int .i64 0, .int .i64 0, .int .i64 0, .int .i64 0, .int .i64 0] 29)).alloc (.cells #[.int .i64 0, .int .i64 0, .int .i64 0, .int .i64 0, .int .i64 0, .int .i64 0, .int .i64 0, .int .i64 0, .int .i64 0, .int .i64 0, .int .i64 0, .int .i64 0, .int .i64 0, .int .i64 0, .int .i64 0, .int .i64 0, .int .i64 0, .int .i64 0, .int .i64 0, .int .i64 0, .int .i64 0, .int .i64 0, .int .i64 0, .int .i64 0] 29)) (w.heap.size + 1) 29 24 (fun _ => 0) := by rw [zvec24]; exact Blk.new1 w _ _ 24 _
  have R0 : Blk ((w.alloc (.cells #[.int .i64 0, .int .i64 0, .int .i64 0, .int .i64 0, .int .i64 0, .int .i64 0, .int .i64 0, .int .i64 0, .int .i64 0, .int .i64 0, .int .i64 0, .int .i64 0, .int .i64 0, .int .i64 0, .int .i64 0, .int .i64 0, .int .i64 0, .int .i64 0, .int .i64 0, .int .i64 0, .int .i64 0, .int .i64 0, .int .i64 0, .int .i64 0] 29)).alloc (.cells #[.int .i64 0, .int .i64 0, .int .i64 0, .int .i64 0, .int .i64 0, .int .i64 0, .int .i64 0, .int .i64 0, .int .i64 0, .int .i64 0, .int .i64 0, .int .i64 0, .int .i64 0, .int .i64 0, .int .i64 0, .int .i64 0, .int .i64 0, .int .i64 0, .int .i64 0, .int .i64 0, .int .i64 0, .int .i64 0, .int .i64 0, .int .i64 0] 29)) w.heap.size 29 24 (fun _ => 0) := by rw [zvec24]; exact (Blk.new w _ 24 _).alloc _
  have B0 : Below w.heap.size w ((w.alloc (.cells #[.int .i64 0, .int .i64 0, .int .i64 0, .int .i64 0, .int .i64 0, .int .i64 0, .int .i64 0, .int .i64 0, .int .i64 0, .int .i64 0, .int .i64 0, .int .i64 0, .int .i64 0, .int .i64 0, .int .i64 0, .int .i64 0, .int .i64 0, .int .i64 0, .int .i64 0, .int .i64 0, .int .i64 0, .int .i64 0, .int .i64 0, .int .i64 0] 29)).alloc (.cells #[.int .i64 0, .int .i64 0, .int .i64 0, .int .i64 0, .int .i64 0, .int .i64 0, .int .i64 0, .int .i64 0, .int .i64 0, .int .i64 0, .int .i64 0, .int .i64 0, .int .i64 0, .int .i64 0, .int .i64 0, .int .i64 0, .int .i64 0, .int .i64 0, .int .i64 0, .int .i64 0, .int .i64 0, .int .i64 0, .int .i64 0, .int .i64 0] 29)) := by (repeat (first | with_reducible exact Below.refl _ _ | with_reducible apply Below.drew | (with_reducible refine below_drewN ?_ _) | (with_reducible refine Below.alloc ?_ (by (try simp) <;> omega) _) | (with_reducible refine Below.setCell ?_ (by (try simp) <;> omega) _)))
  go_enter Try.func9, Try.ntmps9
  go_upto_region 3 with fail
  generalize (w.alloc (.cells #[.int .i64 0, .int .i64 0, .int .i64 0, .int .i64 0, .int .i64 0, .int .i64 0, .int .i64 0, .int .i64 0, .int .i64 0, .int .i64 0, .int .i64 0, .int .i64 0, .int .i64 0, .int .i64 0, .int .i64 0, .int .i64 0, .int .i64 0, .int .i64 0, .int .i64 0, .int .i64 0, .int .i64 0, .int .i64 0, .int .i64 0, .int .i64 0] 29)).alloc (.cells #[.int .i64 0, .int .i64 0, .int .i64 0, .int .i64 0, .int .i64 0, .int .i64 0, .int .i64 0, .int .i64 0, .int .i64 0, .int .i64 0, .int .i64 0, .int .i64 0, .int .i64 0, .int .i64 0, .int .i64 0, .int .i64 0, .int .i64 0, .int .i64 0, .int .i64 0, .int .i64 0, .int .i64 0, .int .i64 0, .int .i64 0, .int .i64 0] 29) = W0 at *
  have S0 := Lib.hid S0
  have R0 := Lib.hid R0
  have B0 := Lib.hid B0
  go_wp2_with fail
  refine (bfill_any _ 0 4 1073741840 (w.heap.size + 1) _ (by decide) (by decide) S0.out).mono ?_; rintro e w1 ⟨rfl, hb1, hz1, S1⟩
  have S1 := Lib.hid S1
  have R1 := Lib.hid (R0.out.belowB hb1 (Nat.lt_succ_self _))
  have B1 := Lib.hid (B0.out.trans (hb1.mono (Nat.le_succ _)))
  clear hb1 hz1 S0 R0 B0
  go_wp2_with fail
  refine (bfill_any _ 4 7 549755813888 (w.heap.size + 1) _ (by decide) (by decide) S1.out).mono ?_; rintro e w2 ⟨rfl, hb2, hz2, S2⟩
  have S2 := Lib.hid S2
  have R2 := Lib.hid (R1.out.belowB hb2 (Nat.lt_succ_self _))
  have B2 := Lib.hid (B1.out.trans (hb2.mono (Nat.le_succ _)))
  clear hb2 hz2 S1 R1 B1
  go_wp2_with fail
  refine (bfill_any _ 7 10 9007199254740992 (w.heap.size + 1) _ (by decide) (by decide) S2.out).mono ?_; rintro e w3 ⟨rfl, hb3, hz3, S3⟩
  have S3 := Lib.hid S3
  have R3 := Lib.hid (R2.out.belowB hb3 (Nat.lt_succ_self _))
  have B3 := Lib.hid (B2.out.trans (hb3.mono (Nat.le_succ _)))
  clear hb3 hz3 S2 R2 B2
  go_wp2_with fail
  refine (bfill_any _ 10 13 134217728 (w.heap.size + 1) _ (by decide) (by decide) S3.out).mono ?_; rintro e w4 ⟨rfl, hb4, hz4, S4⟩
  have S4 := Lib.hid S4
  have R4 := Lib.hid (R3.out.belowB hb4 (Nat.lt_succ_self _))
  have B4 := Lib.hid (B3.out.trans (hb4.mono (Nat.le_succ _)))
  clear hb4 hz4 S3 R3 B3
  go_wp2_with fail
  refine (bfill_any _ 13 16 1073741824 (w.heap.size + 1) _ (by decide) (by decide) S4.out).mono ?_; rintro e w5 ⟨rfl, hb5, hz5, S5⟩
  have S5 := Lib.hid S5
  have R5 := Lib.hid (R4.out.belowB hb5 (Nat.lt_succ_self _))
  have B5 := Lib.hid (B4.out.trans (hb5.mono (Nat.le_succ _)))
  clear hb5 hz5 S4 R4 B4
  go_wp2_with fail
  refine (bfill_any _ 16 22 2147483648 (w.heap.size + 1) _ (by decide) (by decide) S5.out).mono ?_; rintro e w6 ⟨rfl, hb6, hz6, S6⟩
  have S6 := Lib.hid S6
  have R6 := Lib.hid (R5.out.belowB hb6 (Nat.lt_succ_self _))
  have B6 := Lib.hid (B5.out.trans (hb6.mono (Nat.le_succ _)))
  clear hb6 hz6 S5 R5 B5
  go_wp2_with fail
  refine (bfill_any _ 22 24 137438953472 (w.heap.size + 1) _ (by decide) (by decide) S6.out).mono ?_; rintro e w7 ⟨rfl, hb7, hz7, S7⟩
  have S7 := Lib.hid S7
  have R7 := Lib.hid (R6.out.belowB hb7 (Nat.lt_succ_self _))
  have B7 := Lib.hid (B6.out.trans (hb7.mono (Nat.le_succ _)))
  clear hb7 hz7 S6 R6 B6
  have S8 := S7.out.congr (g := boxF) fun i hi => by
    simp only [filF, boxF]
    repeat' split
    all_goals first | rfl | omega
  have R8 := R7.out
  go_wp2_with (first | (refine wpList_load_row rfl 29 _ rfl (w.heap.size + 1) rfl 29 _ (0, 0) _ (S8) Try.underlying29 rfl (ibox.trans (by rw [arrv_size])) ?_) | (refine wpList_store_row rfl 29 _ _ rfl (w.heap.size) _ rfl rfl 29 _ (R8) (ibox.trans (by rw [arrv_size])) (by rw [arrv_size, arrv_size]) (oneCell_arrv _ _) ?_))
  refine bodyPost_ret (results_cell_row Try.results9 _ _ w.heap.size 29 (arrv 24 boxF) (0, 0) _ rfl (setRow_heap _ _ _ _ _ _ R8) Try.underlying29 rfl (ibox.trans (by rw [arrv_size]))) rfl ⟨rfl, ?_⟩
  exact below_row B7.out (Nat.le_refl _) _
end Go.Proofs.Ytcbklolfibdffaa
