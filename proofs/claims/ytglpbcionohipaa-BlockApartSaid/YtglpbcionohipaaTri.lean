/- Contracts of package tri (2): Good, place, U, Set. -/
import Derived.Test.YtglpbcionohipaaCond
namespace Go.Proofs.Ytglpbcionohipaa
open Go.RowKit
set_option maxRecDepth 100000
theorem good_any (f : Nat → Int) (w : World) :
    Calls Try.prog 16 #[.agg (arrv 300 f)] w fun e w' => e = .returned (.bool (!condH f)) ∧ Below w.heap.size w w' := by
  go_enter Try.func16, Try.ntmps16
  have B0 := (Blk.new w 29 300 f).alloc (.cells #[.bool false] 25)
  go_wp2_with (first | (refine wpList_load_row rfl 29 _ rfl w.heap.size rfl 29 _ (0, 0) _ B0 Try.underlying29 rfl (icov.trans (by rw [arrv_size])) ?_) | (go_at_call 35; refine (cond_any ⟨w.heap.size + 1, 0, none⟩ false f _ (by simp) (by simp)).mono ?_; rintro e w1 ⟨rfl, hu1⟩; have k1 := hu1.cellc (h0 := false) (by simp)))
  go_ret
  refine ⟨by simp, ?_⟩
  exact Below.trans (by (repeat (first | with_reducible exact Below.refl _ _ | with_reducible apply Below.drew | (with_reducible refine below_drewN ?_ _) | (with_reducible refine Below.alloc ?_ (by (try simp) <;> omega) _) | (with_reducible refine Below.setCell ?_ (by (try simp) <;> omega) _)))) (Below.mono hu1 (by simp; omega))
theorem tri_mod (j : Nat) : j * (j - 1) % 2 = 0 := by
  rcases Nat.mod_two_eq_zero_or_one j with h | h
  · rw [Nat.mul_mod, h]; simp
  · cases j with
    | zero => simp
    | succ n => rw [Nat.mul_mod, show (n + 1 - 1) % 2 = 0 by omega]; simp
theorem pl_lt {i j : Nat} (h : i < j) (hj : j < 24) : pl i j < 276 := by
  unfold pl
  have : j * (j - 1) ≤ 23 * 22 := Nat.mul_le_mul (by omega) (by omega)
  omega
theorem pl_cast (i j : Nat) : ((pl i j : Nat) : Int) = (j : Int) * ((j - 1 : Nat) : Int) / 2 + (i : Int) := by
  unfold pl
  rw [← Int.natCast_mul]
  omega
theorem place_any (i j : Nat) (w : World) (_hi : i < 24) (hj : j < 24) :
    Calls Try.prog 36 #[.int .i64 i, .int .i64 j] w fun e w' => e = .returned (.tuple #[.int .i64 (pl i j : Nat), .bool (decide (i < j))]) ∧ w = w' := by
  have hmul : (j : Int) * ((j : Int) - 1) = ((j * (j - 1) : Nat) : Int) := by
    cases j with
    | zero => simp
    | succ n => rw [Int.natCast_mul, show ((n + 1 : Nat) : Int) - 1 = ((n + 1 - 1 : Nat) : Int) from by omega]
  have hb : j * (j - 1) ≤ 23 * 22 := Nat.mul_le_mul (by omega) (by omega)
  have hc := pl_cast i j
  have HC := Lib.hid hc
  clear hc
  by_cases h : i < j
  · have hd : decide (i < j) = true := by simpa using h
    rw [hd]
    clear hd
    go_enter Try.func36, Try.ntmps36
    go_wp2
    go_ret2
    refine ⟨?_, rfl⟩
    rw [HC.out]
    simp only [hj, decide_true, Int.ofNat_lt, and_self]
    first | rfl | (simp; omega) | simp
  · have hd : decide (i < j) = false := by simpa using h
    rw [hd]
    go_enter Try.func36, Try.ntmps36
    go_wp2
    go_ret2
    refine ⟨?_, rfl⟩
    rw [HC.out]
    first | rfl | (simp; done) | (simp; omega)
/-- U's number of row i and column j. -/
def uV (f : Nat → Int) (i j : Nat) : Int := if i = j then 1073741824 else if i < j then f (pl i j) else 0
theorem u_any (f : Nat → Int) (i j : Nat) (w : World) (hi : i < 24) (hj : j < 24) :
    Calls Try.prog 17 #[.agg (arrv 300 f), .int .i64 i, .int .i64 j] w fun e w' => e = .returned (.int .i64 (uV f i j)) ∧ Below w.heap.size w w' := by
  by_cases h : i = j
  · subst h
    rw [show uV f i i = 1073741824 from by simp [uV]]
    go_enter Try.func17, Try.ntmps17
    go_wp2
    go_ret
    exact ⟨rfl, by (repeat (first | with_reducible exact Below.refl _ _ | with_reducible apply Below.drew | (with_reducible refine below_drewN ?_ _) | (with_reducible refine Below.alloc ?_ (by (try simp) <;> omega) _) | (with_reducible refine Below.setCell ?_ (by (try simp) <;> omega) _)))⟩
  · have hne : ((i : Int) == (j : Int)) = false := by simp; omega
    by_cases h1 : i < j
    · have hp := pl_lt h1 hj
      have ev : uV f i j = f (pl i j) := by simp [uV, h, h1]
      obtain ⟨p, hpp⟩ : ∃ p, pl i j = p := ⟨_, rfl⟩
      have PC := Lib.hid (place_any i j)
      rw [hpp] at hp ev PC
      rw [ev, show decide (i < j) = true from by simpa using h1] at *
      have b0 := (Blk.new w 29 300 f).cell (i := p) (by omega)
      clear h hpp ev
      go_enter Try.func17, Try.ntmps17
      go_wp2_with (go_at_call 36; refine (PC.out _ hi hj).mono ?_; rintro e w' ⟨rfl, rfl⟩)
      go_ret
      exact ⟨rfl, by (repeat (first | with_reducible exact Below.refl _ _ | with_reducible apply Below.drew | (with_reducible refine below_drewN ?_ _) | (with_reducible refine Below.alloc ?_ (by (try simp) <;> omega) _) | (with_reducible refine Below.setCell ?_ (by (try simp) <;> omega) _)))⟩
    · have ev : uV f i j = 0 := by simp [uV, h, h1]
      have PC := Lib.hid (place_any i j)
      rw [ev]
      rw [show decide (i < j) = false from by simpa using h1] at PC
      clear h ev
      go_enter Try.func17, Try.ntmps17
      go_wp2_with (go_at_call 36; refine (PC.out _ hi hj).mono ?_; rintro e w' ⟨rfl, rfl⟩)
      go_ret
      exact ⟨rfl, by (repeat (first | with_reducible exact Below.refl _ _ | with_reducible apply Below.drew | (with_reducible refine below_drewN ?_ _) | (with_reducible refine Below.alloc ?_ (by (try simp) <;> omega) _) | (with_reducible refine Below.setCell ?_ (by (try simp) <;> omega) _)))⟩
theorem set_any (f : Nat → Int) (i j : Nat) (v : Int) (w : World) (h1 : i < j) (hj : j < 24) :
    Calls Try.prog 23 #[.agg (arrv 300 f), .int .i64 i, .int .i64 j, .int .i64 v] w fun e w' => e = .returned (.agg (arrv 300 (upd f (pl i j) v))) ∧ Below w.heap.size w w' := by
  have hp := pl_lt h1 hj
  have hi : i < 24 := by omega
  obtain ⟨p, hpp⟩ : ∃ p, pl i j = p := ⟨_, rfl⟩
  have pc : ∀ w, Calls Try.prog 36 #[.int .i64 i, .int .i64 j] w fun e w' => e = .returned (.tuple #[.int .i64 p, .bool true]) ∧ w = w' := fun w => by
    have := place_any i j w hi hj
    rwa [hpp, show decide (i < j) = true from by simpa using h1] at this
  rw [hpp] at hp ⊢
  have PC := Lib.hid pc
  clear pc hpp h1 hi hj
  go_enter Try.func23, Try.ntmps23
  go_wp2_with fail
  have A0 := (Blk.new w 29 300 f).alloc (.cells Try.zeroCells29 29)
  have A1 := Blk.new1 w (.cells (arrv 300 f) 29) 29 300 (fun _ => 0)
  rw [← zcov] at A1
  have hb : Below w.heap.size w ((w.alloc (.cells (arrv 300 f) 29)).alloc (.cells Try.zeroCells29 29)) := by (repeat (first | with_reducible exact Below.refl _ _ | with_reducible apply Below.drew | (with_reducible refine below_drewN ?_ _) | (with_reducible refine Below.alloc ?_ (by (try simp) <;> omega) _) | (with_reducible refine Below.setCell ?_ (by (try simp) <;> omega) _)))
  refine (PC.out _).mono ?_; rintro e w' ⟨rfl, rfl⟩
  generalize (w.alloc (.cells (arrv 300 f) 29)).alloc (.cells Try.zeroCells29 29) = W at *
  have b0 := A0.cell (i := p) (by omega)
  have b1 := A0.free p
  have B0 := A0.set p v
  have B1 := A1.other (a := ⟨w.heap.size, p, none⟩) (by simp) (.int .i64 v)
  go_wp2_with (first | (refine wpList_load_row rfl 29 _ rfl w.heap.size rfl 29 _ (0, 0) _ B0 Try.underlying29 rfl (icov.trans (by rw [arrv_size])) ?_) | (refine wpList_store_row rfl 29 _ _ rfl (w.heap.size + 1) _ rfl rfl 29 _ B1 (icov.trans (by rw [arrv_size])) (by rw [arrv_size, arrv_size]) (oneCell_arrv _ _) ?_))
  refine bodyPost_ret (results_cell_row Try.results23 _ _ (w.heap.size + 1) 29 (arrv 300 (upd f p v)) (0, 0) _ rfl (setRow_heap _ _ _ _ _ _ B1) Try.underlying29 rfl (icov.trans (by rw [arrv_size]))) rfl ⟨rfl, ?_⟩
  exact below_row (hb.setCell (Nat.le_refl _) _) (by omega) _
end Go.Proofs.Ytglpbcionohipaa
