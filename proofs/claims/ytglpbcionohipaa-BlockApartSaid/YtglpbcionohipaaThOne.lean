/- Contracts of package thornton (1): One, rows. -/
import Derived.Test.YtglpbcionohipaaTri
namespace Go.Proofs.Ytglpbcionohipaa
open Go.RowKit
set_option maxRecDepth 100000
def oneF : Nat → Int := fun i => if i / 24 = i % 24 then 1073741824 else 0
def oneS (k : Nat) : Nat → Int := fun i => if i / 24 = i % 24 ∧ i / 24 < k then 1073741824 else 0
theorem zmat : Try.zeroCells64 = arrv 576 (fun _ => 0) := by kernel_rfl
theorem imat : (Try.prog.info? 64).map (·.size) = some 576 := by kernel_rfl
structure OneR (w : World) (g : Nat → Int) (wr : World) : Prop where
  below : Below w.heap.size w wr
  res : Blk wr w.heap.size 64 576 (fun _ => 0)
  blk : Blk wr (w.heap.size + 1) 64 576 g
theorem one_any (w : World) :
    Calls Try.prog 30 #[] w fun e w' => e = .returned (.agg (arrv 576 oneF)) ∧ Below w.heap.size w w' := by
  go_enter Try.func30, Try.ntmps30
  go_wp2_with fail
  go_loopw [3] (fun i wr => ∃ k : Nat, k ≤ 24 ∧ i = .int .i64 k ∧ Hid (OneR w (oneS k) wr)) (fun i _ => 24 - (intOf i).toNat)
  case atStart =>
    refine ⟨0, by omega, rfl, ⟨by (repeat (first | with_reducible exact Below.refl _ _ | with_reducible apply Below.drew | (with_reducible refine below_drewN ?_ _) | (with_reducible refine Below.alloc ?_ (by (try simp) <;> omega) _) | (with_reducible refine Below.setCell ?_ (by (try simp) <;> omega) _))), ?_, ?_⟩⟩
    · rw [zmat]; exact (Blk.new w _ _ _).alloc _
    · rw [zmat]; exact (Blk.new1 w _ _ _ _).congr fun i hi => by simp [oneS]
  case round =>
    obtain ⟨k, hk, rfl, R⟩ := hrel
    by_cases hlt : k < 24
    · have b0 := R.out.blk.cell (i := k * 24 + k) (by omega)
      have b1 := R.out.blk.free (k * 24 + k)
      go_wp2_with fail
      go_roundw
      case rel =>
        refine ⟨k + 1, by omega, by go_num, ⟨R.out.below.setCell (by simp) _, R.out.res.other (by simp) _, ?_⟩⟩
        refine (R.out.blk.set _ _).congr fun i hi => ?_
        simp only [Go.Proofs.Ytglpbcionohipaa.upd, oneS]
        by_cases h1 : i = k * 24 + k
        · subst h1; rw [if_pos rfl, if_pos (by omega)]
        · rw [if_neg h1]; split <;> split <;> first | rfl | omega
      case measure => simp [intOf]; omega
    · have hk24 : k = 24 := by omega
      subst hk24
      have B0 := R.out.res
      have B1 := R.out.blk
      have HB := Lib.hid R.out.below
      clear R hlt hk
      rw [show ((24 : Nat) : Int) = 24 from rfl]
      go_wp2_with (first | (refine wpList_load_row rfl 64 _ rfl (w.heap.size + 1) rfl 64 _ (0, 0) _ B1 Try.underlying64 rfl (imat.trans (by rw [arrv_size])) ?_) | (refine wpList_store_row rfl 64 _ _ rfl w.heap.size _ rfl rfl 64 _ B0 (imat.trans (by rw [arrv_size])) (by rw [arrv_size, arrv_size]) (oneCell_arrv _ _) ?_))
      refine bodyPost_ret (results_cell_row Try.results30 _ _ w.heap.size 64 (arrv 576 (oneS 24)) (0, 0) _ rfl (setRow_heap _ _ _ _ _ _ B0) Try.underlying64 rfl (imat.trans (by rw [arrv_size]))) rfl ⟨?_, ?_⟩
      · rw [arrv_congr (g := oneF) fun i hi => by simp only [oneS, oneF]; split <;> split <;> first | rfl | omega]
      · exact below_row HB.out (Nat.le_refl _) _

/-- Column k of U; row i of a matrix. -/
def colF (f : Nat → Int) (k : Nat) : Nat → Int := fun m => if m ≤ k then uV f m k else 0
def rwV (f F : Nat → Int) (i k : Nat) : Int := dotV 30 (rowF 24 F i) (colF f k) 24
def rwB (f F : Nat → Int) (i k : Nat) : Bool := dotH 30 (rowF 24 F i) (colF f k) 24
def rwS (f F : Nat → Int) (k i : Nat) : Nat → Int := fun j => if j % 48 < k ∨ (j % 48 = k ∧ j / 48 < i) then rwV f F (j / 48) (j % 48) else 0
def rwE (f F : Nat → Int) (i : Nat) : Nat → Int := fun j => if j % 48 = 24 + j / 48 ∧ j / 48 < i then 1073741824 else rwS f F 24 0 j
def rowsW (f F : Nat → Int) : Nat → Int := fun j => if j % 48 < 24 then rwV f F (j / 48) (j % 48) else if j % 48 = 24 + j / 48 then 1073741824 else 0
def rwH (f F : Nat → Int) (k : Nat) : Bool := orB (fun k => orB (fun i => rwB f F i k) 24) k
def rowsH (f F : Nat → Int) : Bool := rwH f F 24
structure RowsR (c : Addr) (h : Bool) (f W : Nat → Int) (w wr : World) : Prop where
  upd : Upd c h w wr
  pb : Blk wr w.heap.size 29 300 f
  wb : Blk wr (w.heap.size + 1) 101 1152 W
theorem zrows : Try.zeroCells101 = arrv 1152 (fun _ => 0) := by kernel_rfl
theorem zcol : (#[.int .i64 0, .int .i64 0, .int .i64 0, .int .i64 0, .int .i64 0, .int .i64 0, .int .i64 0, .int .i64 0, .int .i64 0, .int .i64 0, .int .i64 0, .int .i64 0, .int .i64 0, .int .i64 0, .int .i64 0, .int .i64 0, .int .i64 0, .int .i64 0, .int .i64 0, .int .i64 0, .int .i64 0, .int .i64 0, .int .i64 0, .int .i64 0] : Array Value) = arrv 24 (fun _ => 0) := by kernel_rfl
end Go.Proofs.Ytglpbcionohipaa
