/- Contract of bierman.Pick. -/
import Derived.Test.YtglpbcionohipaaNew
import Derived.Test.YtglpbcionohipaaLaw
import Derived.Test.YtglpbcionohipaaBkP
namespace Go.Proofs.Ytglpbcionohipaa
open Go.RowKit
set_option maxRecDepth 100000
theorem irow : (Try.prog.info? 31).map (·.size) = some 24 := by kernel_rfl
theorem zrow : (#[.int .i64 0, .int .i64 0, .int .i64 0, .int .i64 0, .int .i64 0, .int .i64 0, .int .i64 0, .int .i64 0, .int .i64 0, .int .i64 0, .int .i64 0, .int .i64 0, .int .i64 0, .int .i64 0, .int .i64 0, .int .i64 0, .int .i64 0, .int .i64 0, .int .i64 0, .int .i64 0, .int .i64 0, .int .i64 0, .int .i64 0, .int .i64 0] : Array Value) = arrv 24 (fun _ => 0) := by kernel_rfl
/-- One at each state that is named. -/
def pkS (L : Nat → Int) : Nat → Nat → Int | 0 => fun _ => 0 | n + 1 => if 0 ≤ L n ∧ L n < 24 then upd (pkS L n) (L n).toNat 1073741824 else pkS L n
theorem pick_any (p : Option Addr) (n cp : Nat) (L : Nat → Int) (w : World) (hL : Slc w p n L) (hn : n ≤ 9223372036854775807) :
    Calls Try.prog 9 #[.slice p n cp] w fun e w' => e = .returned (.agg (arrv 24 (pkS L n))) ∧ Below w.heap.size w w' := by
  have HL := Lib.hid hL
  clear hL
  go_enter Try.func9, Try.ntmps9
  go_wp2_with fail
  go_loopw [8] (fun i wr => ∃ k : Nat, k ≤ n ∧ i = .int .i64 k ∧ Hid (Below w.heap.size w wr ∧ Blk wr w.heap.size 31 24 (fun _ => 0) ∧ Blk wr (w.heap.size + 1) 31 24 (pkS L k))) (fun i _ => n - (intOf i).toNat)
  case atStart =>
    refine ⟨0, by omega, rfl, by (repeat (first | with_reducible exact Below.refl _ _ | with_reducible apply Below.drew | (with_reducible refine below_drewN ?_ _) | (with_reducible refine Below.alloc ?_ (by (try simp) <;> omega) _) | (with_reducible refine Below.setCell ?_ (by (try simp) <;> omega) _))), ?_, ?_⟩
    · rw [zrow]; exact (Blk.new w _ _ _).alloc _
    · rw [zrow]; exact Blk.new1 w _ _ _ _
  case round =>
    obtain ⟨k, hk, rfl, R⟩ := hrel
    by_cases hlt : k < n
    · have d1 : decide ((k : Int) < (n : Int)) = true := by simp; omega
      obtain ⟨pb, po, rfl, hcell⟩ := HL.out k hlt
      have hc1 : wr.cell? ⟨pb, po + k, none⟩ = some (.int .i64 (L k)) := (R.out.1.cell (World.block_lt_of_cell? _ _ hcell)).trans hcell
      by_cases h0 : 0 ≤ L k
      · by_cases h1 : L k < 24
        · have hx : ((L k).toNat : Int) = L k := by omega
          obtain ⟨x, hxk⟩ : ∃ x, (L k).toNat = x := ⟨_, rfl⟩
          have hLx : L k = (x : Int) := by omega
          have hxl : x < 24 := by omega
          rw [hLx] at hc1
          have b0 := R.out.2.2.cell (i := x) hxl
          have b1 := R.out.2.2.free x
          have HX := Lib.hid hLx
          have HR := Lib.hid R.out
          clear hx hxk hLx h0 h1 R hcell
          have hx0 : (0 : Int) ≤ (x : Int) := Int.natCast_nonneg _
          have hx1 : (x : Int) < 24 := by omega
          go_wp2_with fail
          go_roundw
          case rel =>
            refine ⟨k + 1, by omega, by go_num, HR.out.1.setCell (by simp) _, HR.out.2.1.other (by simp) _, ?_⟩
            have := HR.out.2.2.set x 1073741824
            have e : pkS L (k + 1) = upd (pkS L k) x 1073741824 := by
              simp only [pkS]
              rw [if_pos (by rw [HX.out]; omega), HX.out]; rfl
            rw [e]; exact this
          case measure => simp [intOf]; omega
        · have d2 : decide (L k < 24) = false := by simp; omega
          have d3 : decide (0 ≤ L k) = true := by simp; omega
          have HR := Lib.hid R.out
          have e : pkS L (k + 1) = pkS L k := by simp only [pkS]; rw [if_neg (by omega)]
          have HE := Lib.hid e
          clear R hcell e
          go_wp2_with fail
          go_roundw
          case rel =>
            refine ⟨k + 1, by omega, by go_num, HR.out.1, HR.out.2.1, ?_⟩
            rw [HE.out]; exact HR.out.2.2
          case measure => simp [intOf]; omega
      · have d3 : decide (0 ≤ L k) = false := by simp; omega
        have HR := Lib.hid R.out
        have e : pkS L (k + 1) = pkS L k := by simp only [pkS]; rw [if_neg (by omega)]
        have HE := Lib.hid e
        clear R hcell e
        go_wp2_with fail
        go_roundw
        case rel =>
          refine ⟨k + 1, by omega, by go_num, HR.out.1, HR.out.2.1, ?_⟩
          rw [HE.out]; exact HR.out.2.2
        case measure => simp [intOf]; omega
    · obtain rfl : k = n := by omega
      have B0 := R.out.2.1
      have B1 := R.out.2.2
      have HB := Lib.hid R.out.1
      clear R hlt hk
      go_wp2_with (first | (refine wpList_load_row rfl 31 _ rfl (w.heap.size + 1) rfl 31 _ (0, 0) _ B1 Try.underlying31 rfl (irow.trans (by rw [arrv_size])) ?_) | (refine wpList_store_row rfl 31 _ _ rfl w.heap.size _ rfl rfl 31 _ B0 (irow.trans (by rw [arrv_size])) (by rw [arrv_size, arrv_size]) (oneCell_arrv _ _) ?_))
      refine bodyPost_ret (results_cell_row Try.results9 _ _ w.heap.size 31 (arrv 24 (pkS L k)) (0, 0) _ rfl (setRow_heap _ _ _ _ _ _ B0) Try.underlying31 rfl (irow.trans (by rw [arrv_size]))) rfl ⟨rfl, ?_⟩
      exact below_row HB.out (Nat.le_refl _) _
end Go.Proofs.Ytglpbcionohipaa
