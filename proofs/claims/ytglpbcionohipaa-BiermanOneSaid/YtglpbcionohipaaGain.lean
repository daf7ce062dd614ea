/- Contract of bierman.Gain. -/
import Derived.Test.YtglpbcionohipaaPick
namespace Go.Proofs.Ytglpbcionohipaa
open Go.RowKit
set_option maxRecDepth 100000
def gnF (K : Nat → Int) (y : Int) (n : Nat) : Nat → Int := fun i => if i < n then mulV (K i) y 30 else K i
def gnB (K : Nat → Int) (y : Int) (i : Nat) : Bool := mulH (K i) y 30
theorem gain_any (c : Addr) (h : Bool) (K : Nat → Int) (y : Int) (w : World) (hc : w.cell? c = some (.bool h)) (hf : w.frozen? c = false) :
    Calls Try.prog 19 #[.pointer (some c), .agg (arrv 24 K), .int .i64 y] w fun e w' => e = .returned (.agg (arrv 24 (gnF K y 24))) ∧ Upd c (h || orB (gnB K y) 24) w w' := by
  have hcb := World.block_lt_of_cell? w c hc
  have HC := Lib.hid hc
  have HF := Lib.hid hf
  clear hc hf
  go_enter Try.func19, Try.ntmps19
  go_wp2_with fail
  go_loopw [8] (fun i wr => ∃ k : Nat, k ≤ 24 ∧ i = .int .i64 k ∧ Hid (Upd c (h || orB (gnB K y) k) w wr ∧ Blk wr w.heap.size 31 24 (gnF K y k) ∧ Blk wr (w.heap.size + 1) 31 24 (fun _ => 0))) (fun i _ => 24 - (intOf i).toNat)
  case atStart =>
    refine ⟨0, by omega, rfl, ?_, ?_, ?_⟩
    · rw [show (h || orB (gnB K y) 0) = h from by simp [orB]]
      exact Upd.then (Upd.refl HC.out) (by (repeat (first | with_reducible exact Below.refl _ _ | with_reducible apply Below.drew | (with_reducible refine below_drewN ?_ _) | (with_reducible refine Below.alloc ?_ (by (try simp) <;> omega) _) | (with_reducible refine Below.setCell ?_ (by (try simp) <;> omega) _))))
    · rw [show gnF K y 0 = K from by funext i; simp [gnF]]; exact (Blk.new w _ _ _).alloc _
    · rw [zrow]; exact Blk.new1 w _ _ _ _
  case round =>
    obtain ⟨k, hk, rfl, R⟩ := hrel
    by_cases hlt : k < 24
    · have d1 : decide ((k : Int) < 24) = true := by simp; omega
      have b0 := R.out.2.1.cell (i := k) (by omega)
      rw [show gnF K y k k = K k from by simp [gnF]] at b0
      have rc := R.out.1.cellc HC.out
      have rf := (R.out.1.frozen hcb).trans HF.out
      have CC := Lib.hid (fmul_any c _ (K k) y 30 _ rc rf)
      clear rc rf
      go_wp2_with (go_at_call 25; refine CC.out.mono ?_; rintro e w' ⟨rfl, u⟩; have HU2 := Lib.hid (R.out.1.trans u); have S2 := R.out.2.1.upd u (by have := hcb; omega); have HR2 := Lib.hid (R.out.2.2.upd u (by have := hcb; omega)); have c0 := S2.cell (i := k) (by omega); have c1 := S2.free k; have HS2 := Lib.hid S2; clear u S2)
      go_roundw
      case rel =>
        refine ⟨k + 1, by omega, by go_num, ?_, ?_, HR2.out.other (by simp) _⟩
        · rw [show (h || orB (gnB K y) (k + 1)) = (h || orB (gnB K y) k || mulH (K k) y 30) from by simp [orB, gnB, Bool.or_assoc]]
          exact HU2.out.setCell (by simp) _
        · refine (HS2.out.set _ _).congr fun i hi => ?_
          simp only [Go.Proofs.Ytglpbcionohipaa.upd, gnF]
          by_cases h1 : i = k
          · subst h1; rw [if_pos rfl, if_pos (by omega)]
          · rw [if_neg h1]; split <;> split <;> first | rfl | omega
      case measure => simp [intOf]; omega
    · have hk24 : k = 24 := by omega
      subst hk24
      have B0 := R.out.2.1
      have B1 := R.out.2.2
      have HB := Lib.hid R.out.1
      clear R hlt hk
      go_wp2_with (first | (refine wpList_load_row rfl 31 _ rfl w.heap.size rfl 31 _ (0, 0) _ B0 Try.underlying31 rfl (irow.trans (by rw [arrv_size])) ?_) | (refine wpList_store_row rfl 31 _ _ rfl (w.heap.size + 1) _ rfl rfl 31 _ B1 (irow.trans (by rw [arrv_size])) (by rw [arrv_size, arrv_size]) (oneCell_arrv _ _) ?_))
      refine bodyPost_ret (results_cell_row Try.results19 _ _ (w.heap.size + 1) 31 (arrv 24 (gnF K y 24)) (0, 0) _ rfl (setRow_heap _ _ _ _ _ _ B1) Try.underlying31 rfl (irow.trans (by rw [arrv_size]))) rfl ⟨rfl, ?_⟩
      exact HB.out.then' (below_row (Below.refl _ _) (by first | omega | simp) _)
end Go.Proofs.Ytglpbcionohipaa
