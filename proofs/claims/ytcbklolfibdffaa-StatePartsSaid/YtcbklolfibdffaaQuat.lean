/- Contracts of package quat: sat, One, Unit. -/
import Derived.Test.YtcbklolfibdffaaHyp
import Derived.Test.YtcbklolfibdffaaEqV
import Derived.Test.YtcbklolfibdffaaLaw
import Derived.Test.YtcbklolfibdffaaSub
import Derived.Deep.Cut
import Derived.Deep.CutRange
namespace Go.Proofs.Ytcbklolfibdffaa
open Go.RowKit
set_option maxRecDepth 100000
theorem iqt : (Try.prog.info? 40).map (·.size) = some 4 := by kernel_rfl
theorem zq4 : (#[.int .i64 0, .int .i64 0, .int .i64 0, .int .i64 0] : Array Value) = arrv 4 (fun _ => 0) := by kernel_rfl
theorem oq4 : (#[.int .i64 1073741824, .int .i64 0, .int .i64 0, .int .i64 0] : Array Value) = arrv 4 oneQ := by kernel_rfl
theorem qone_any (w : World) : Calls Try.prog 15 #[] w fun e w' => e = .returned (.agg (arrv 4 oneQ)) ∧ Below w.heap.size w w' := by
  go_enter Try.func15, Try.ntmps15
  go_wp2_with fail
  refine bodyPost_ret (v := .agg #[.int .i64 1073741824, .int .i64 0, .int .i64 0, .int .i64 0]) (by simp [results, Try.results15, go_sem]) rfl ⟨by rw [oq4], ?_⟩
  (repeat (first | with_reducible exact Below.refl _ _ | with_reducible apply Below.drew | (with_reducible refine below_drewN ?_ _) | (with_reducible refine Below.alloc ?_ (by (try simp) <;> omega) _) | (with_reducible refine Below.setCell ?_ (by (try simp) <;> omega) _)))
/-- The first k are clamped. -/
def satK (A : Nat → Int) (k : Nat) : Nat → Int := fun i => if i < k then satV (A i) else A i
structure QsR (c : Addr) (h : Bool) (g : Nat → Int) (w wr : World) : Prop where
  upd : Upd c h w wr
  blk : Blk wr w.heap.size 40 4 g
  res : Blk wr (w.heap.size + 1) 40 4 (fun _ => 0)
theorem qsat_any (c : Addr) (h : Bool) (A : Nat → Int) (w : World) (hc : w.cell? c = some (.bool h)) (hf : w.frozen? c = false) :
    Calls Try.prog 26 #[.pointer (some c), .agg (arrv 4 A)] w fun e w' => e = .returned (.agg (arrv 4 (satA A))) ∧ Upd c (h || orB (fun i => satH (A i)) 4) w w' := by
  have hcb := World.block_lt_of_cell? w c hc
  have HC := Lib.hid hc
  have HF := Lib.hid hf
  clear hc hf
  go_enter Try.func26, Try.ntmps26
  go_wp2_with fail
  go_loopw [6] (fun i wr => ∃ k : Nat, k ≤ 4 ∧ i = .int .i64 k ∧ Hid (QsR c (h || orB (fun i => satH (A i)) k) (satK A k) w wr)) (fun i _ => 4 - (intOf i).toNat)
  case atStart =>
    refine ⟨0, by omega, rfl, ⟨?_, ?_, ?_⟩⟩
    · rw [show (h || orB (fun i => satH (A i)) 0) = h from by simp [orB]]
      exact Upd.then (Upd.refl HC.out) (by (repeat (first | with_reducible exact Below.refl _ _ | with_reducible apply Below.drew | (with_reducible refine below_drewN ?_ _) | (with_reducible refine Below.alloc ?_ (by (try simp) <;> omega) _) | (with_reducible refine Below.setCell ?_ (by (try simp) <;> omega) _))))
    · exact (Blk.alloc (Blk.new w _ 4 A) _).congr fun i hi => by simp [satK]
    · rw [zq4]; exact Blk.new1 w _ _ 4 _
  case round =>
    obtain ⟨k, hk, rfl, R⟩ := hrel
    by_cases hlt : k < 4
    · have rc := R.out.upd.cellc HC.out
      have rf := (R.out.upd.frozen hcb).trans HF.out
      have b0 := R.out.blk.cell (i := k) (by omega)
      have b1 := R.out.blk.free k
      have n0 := ne_of_cells rc b0
      have hv : satK A k k = A k := by simp [satK]
      rw [hv] at b0
      clear hv
      go_wp2_with (go_at_call 31; refine (sat_any c _ _ _ rc rf).mono ?_; rintro e w' ⟨rfl, rfl⟩)
      go_roundw
      case rel =>
        refine ⟨k + 1, by omega, by go_num, ⟨?_, ?_, ?_⟩⟩
        · rw [show (h || orB (fun i => satH (A i)) (k + 1)) = (h || orB (fun i => satH (A i)) k || satH (A k)) from by simp [orB, Bool.or_assoc]]
          exact (R.out.upd.trans (Upd.set c _ _)).setCell (Nat.le_refl _) _
        · refine ((R.out.blk.other (R.out.blk.flag rc) _).set _ _).congr fun i hi => ?_
          simp only [Go.Proofs.Ytcbklolfibdffaa.upd, satK]
          by_cases h1 : i = k
          · subst h1; simp
          · rw [if_neg h1]; split <;> split <;> first | rfl | omega
        · exact (R.out.res.other (R.out.res.flag rc) _).other (by simp) _
      case measure => simp [intOf]; omega
    · have hk4 : k = 4 := by omega
      subst hk4
      have B0 := R.out.blk
      have B1 := R.out.res
      have U := Lib.hid R.out.upd
      clear R hlt hk
      rw [show ((4 : Nat) : Int) = 4 from rfl]
      go_wp2_with (first | (refine wpList_load_row rfl 40 _ rfl (w.heap.size) rfl 40 _ (0, 0) _ (B0) Try.underlying40 rfl (iqt.trans (by rw [arrv_size])) ?_) | (refine wpList_store_row rfl 40 _ _ rfl (w.heap.size + 1) _ rfl rfl 40 _ (B1) (iqt.trans (by rw [arrv_size])) (by rw [arrv_size, arrv_size]) (oneCell_arrv _ _) ?_))
      refine bodyPost_ret (results_cell_row Try.results26 _ _ (w.heap.size + 1) 40 (arrv 4 (satK A 4)) (0, 0) _ rfl (setRow_heap _ _ _ _ _ _ B1) Try.underlying40 rfl (iqt.trans (by rw [arrv_size]))) rfl ⟨?_, ?_⟩
      · rw [arrv_congr (g := satA A) fun i hi => by simp only [satK, satA]; rw [if_pos hi]]
      · exact U.out.then' (below_row (Below.refl _ _) (by omega) _)
end Go.Proofs.Ytcbklolfibdffaa
