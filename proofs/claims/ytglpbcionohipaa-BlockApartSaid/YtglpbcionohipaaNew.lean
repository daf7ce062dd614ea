/- Contract of tri.New: noughts above the diagonal, the variances given, and the least variance where none is given. -/
import Derived.Test.YtglpbcionohipaaStep1
namespace Go.Proofs.Ytglpbcionohipaa
open Go.RowKit
set_option maxRecDepth 100000
/-- A slice of int64: n numbers from a pointer, or none. -/
def Slc (w : World) (p : Option Addr) (n : Nat) (L : Nat → Int) : Prop := ∀ i, i < n → ∃ b o, p = some ⟨b, o, none⟩ ∧ w.cell? ⟨b, o + i, none⟩ = some (.int .i64 (L i))
def newF (n : Nat) (L : Nat → Int) : Nat → Int := fun i => if i < 276 then 0 else if i - 276 < n then varV (L (i - 276)) else 1
def newB (n : Nat) (L : Nat → Int) (i : Nat) : Bool := if i < n then varH (L i) else false
def newH (n : Nat) (L : Nat → Int) : Bool := orB (newB n L) 24
def newI (n : Nat) (L : Nat → Int) (k : Nat) : Nat → Int := fun i => if i < 276 then 0 else if i < 276 + k then (if i - 276 < n then varV (L (i - 276)) else 1) else 0
theorem new_any (c : Addr) (h : Bool) (p : Option Addr) (n cp : Nat) (L : Nat → Int) (w : World) (hc : w.cell? c = some (.bool h)) (hf : w.frozen? c = false) (hL : Slc w p n L) :
    Calls Try.prog 7 #[.pointer (some c), .slice p n cp] w fun e w' => e = .returned (.agg (arrv 300 (newF n L))) ∧ Upd c (h || newH n L) w w' := by
  have hcb := World.block_lt_of_cell? w c hc
  have HC := Lib.hid hc
  have HF := Lib.hid hf
  have HL := Lib.hid hL
  clear hc hf hL
  go_enter Try.func7, Try.ntmps7
  go_wp2_with fail
  go_loopw [7] (fun i wr => ∃ k : Nat, k ≤ 24 ∧ i = .int .i64 k ∧ Hid (Upd c (h || orB (newB n L) k) w wr ∧ Blk wr w.heap.size 29 300 (fun _ => 0) ∧ Blk wr (w.heap.size + 1) 29 300 (newI n L k))) (fun i _ => 24 - (intOf i).toNat)
  case atStart =>
    refine ⟨0, by omega, rfl, ?_, ?_, ?_⟩
    · rw [show (h || orB (newB n L) 0) = h from by simp [orB]]
      exact Upd.then (Upd.refl HC.out) (by (repeat (first | with_reducible exact Below.refl _ _ | with_reducible apply Below.drew | (with_reducible refine below_drewN ?_ _) | (with_reducible refine Below.alloc ?_ (by (try simp) <;> omega) _) | (with_reducible refine Below.setCell ?_ (by (try simp) <;> omega) _))))
    · rw [zcov]; exact (Blk.new w _ _ _).alloc _
    · rw [zcov]; exact (Blk.new1 w _ _ _ _).congr fun i hi => by simp only [newI]; split <;> first | rfl | (rw [if_neg (by omega)])
  case round =>
    obtain ⟨k, hk, rfl, R⟩ := hrel
    by_cases hlt : k < 24
    · have d1 : decide ((k : Int) < 24) = true := by simp; omega
      have b0 := R.out.2.2.cell (i := 276 + k) (by omega)
      have b1 := R.out.2.2.free (276 + k)
      by_cases hkn : k < n
      · have d2 : decide ((k : Int) < (n : Int)) = true := by simp; omega
        obtain ⟨pb, po, rfl, hcell⟩ := HL.out k hkn
        have hne : (⟨pb, po + k, none⟩ : Addr) ≠ c := fun e => by rw [e, HC.out] at hcell; cases hcell
        have hpl := World.block_lt_of_cell? _ _ hcell
        have U1 : Upd c (h || orB (newB n L) k) w (wr.setCell ⟨w.heap.size + 1, 276 + k, none⟩ (.int .i64 1)) := R.out.1.setCell (by simp) _
        have rc := U1.cellc HC.out
        have rf := (U1.frozen hcb).trans HF.out
        have hcell' : wr.cell? ⟨pb, po + k, none⟩ = some (.int .i64 (L k)) := (R.out.1.cell hpl (Ne.symm hne)).trans hcell
        have hpn : pb ≠ w.heap.size + 1 := by simp at hpl; omega
        have hcell2 : (wr.setCell ⟨w.heap.size + 1, 276 + k, none⟩ (.int .i64 1)).cell? ⟨pb, po + k, none⟩ = some (.int .i64 (L k)) := (World.cell?_setCell_other _ _ _ _ (by intro e; injection e; omega)).trans hcell'
        have CC := Lib.hid (variance_any c _ (L k) _ rc rf)
        have S0 := Lib.hid (R.out.2.2.set (276 + k) 1)
        have T0 := Lib.hid (R.out.2.1.other (a := ⟨w.heap.size + 1, 276 + k, none⟩) (by simp) (.int .i64 1))
        have HU1 := Lib.hid U1
        clear U1 rc rf hcell' R
        go_wp2_with (go_at_call 20; refine CC.out.mono ?_; rintro e w' ⟨rfl, hw'⟩; have U3 := (Upd.set c (h || orB (newB n L) k || varH (L k)) (wr.setCell ⟨w.heap.size + 1, 276 + k, none⟩ (.int .i64 1))).then (by rw [show varH (L k) = clampH (L k) 1 72057594037927936 from rfl, hw']; exact Below.refl _ _); have HU2 := Lib.hid (HU1.out.trans U3); have S2 := S0.out.upd U3 (by have := hcb; omega); have HR2 := Lib.hid (T0.out.upd U3 (by have := hcb; omega)); have c0 := S2.cell (i := 276 + k) (by omega); have c1 := S2.free (276 + k); have HS2 := Lib.hid S2; clear hw' U3 S2)
        go_roundw
        case rel =>
          refine ⟨k + 1, by omega, by go_num, ?_, HR2.out.other (by simp) _, ?_⟩
          · rw [show (h || orB (newB n L) (k + 1)) = (h || orB (newB n L) k || varH (L k)) from by simp [orB, newB, hkn, Bool.or_assoc]]
            exact HU2.out.setCell (by simp) _
          · refine (HS2.out.set _ _).congr fun i hi => ?_
            simp only [Go.Proofs.Ytglpbcionohipaa.upd, newI]
            by_cases h1 : i = 276 + k
            · subst h1; rw [if_pos rfl, if_neg (by omega), if_pos (by omega), show 276 + k - 276 = k by omega, if_pos hkn]; rfl
            · rw [if_neg h1, if_neg h1]; split <;> first | rfl | (split <;> split <;> first | rfl | omega)
        case measure => simp [intOf]; omega
      · have d2 : decide ((k : Int) < (n : Int)) = false := by simp; omega
        go_wp2_with fail
        go_roundw
        case rel =>
          refine ⟨k + 1, by omega, by go_num, ?_, R.out.2.1.other (by simp) _, ?_⟩
          · rw [show (h || orB (newB n L) (k + 1)) = (h || orB (newB n L) k) from by simp [orB, newB, hkn]]
            exact R.out.1.setCell (by simp) _
          · refine (R.out.2.2.set _ _).congr fun i hi => ?_
            simp only [Go.Proofs.Ytglpbcionohipaa.upd, newI]
            by_cases h1 : i = 276 + k
            · subst h1; rw [if_pos rfl, if_neg (by omega), if_pos (by omega), show 276 + k - 276 = k by omega, if_neg hkn]
            · rw [if_neg h1]; split; rfl; split <;> split <;> first | rfl | omega
        case measure => simp [intOf]; omega
    · have hk24 : k = 24 := by omega
      subst hk24
      have B0 := R.out.2.1
      have B1 := R.out.2.2
      have HB := Lib.hid R.out.1
      clear R hlt hk
      rw [show ((24 : Nat) : Int) = 24 from rfl]
      go_wp2_with (first | (refine wpList_load_row rfl 29 _ rfl (w.heap.size + 1) rfl 29 _ (0, 0) _ B1 Try.underlying29 rfl (icov.trans (by rw [arrv_size])) ?_) | (refine wpList_store_row rfl 29 _ _ rfl w.heap.size _ rfl rfl 29 _ B0 (icov.trans (by rw [arrv_size])) (by rw [arrv_size, arrv_size]) (oneCell_arrv _ _) ?_))
      refine bodyPost_ret (results_cell_row Try.results7 _ _ w.heap.size 29 (arrv 300 (newI n L 24)) (0, 0) _ rfl (setRow_heap _ _ _ _ _ _ B0) Try.underlying29 rfl (icov.trans (by rw [arrv_size]))) rfl ⟨?_, ?_⟩
      · rw [arrv_congr (g := newF n L) fun i hi => by simp only [newI, newF]; split <;> first | rfl | (rw [if_pos (by omega)])]
      · exact HB.out.then' (below_row (Below.refl _ _) (Nat.le_refl _) _)
theorem Slc.below {w w' : World} {p : Option Addr} {n : Nat} {L : Nat → Int} (h : Slc w p n L) (b : Below w.heap.size w w') : Slc w' p n L := fun i hi => by
  obtain ⟨k, o, rfl, hc⟩ := h i hi
  exact ⟨k, o, rfl, (b.cell (World.block_lt_of_cell? _ _ hc)).trans hc⟩
end Go.Proofs.Ytglpbcionohipaa
