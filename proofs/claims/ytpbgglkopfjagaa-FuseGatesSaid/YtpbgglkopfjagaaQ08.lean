/- Contracts of the program's functions and plain laws, part 8: they hold for all arguments. -/
import Derived.Test.YtpbgglkopfjagaaQ04
import Derived.Deep.Cut
import Derived.Deep.CutRange
import Derived.Laws.CopyOwn
import Derived.Test.YtpbgglkopfjagaaQ06
import Derived.Test.YtpbgglkopfjagaaQ03
import Derived.Test.YtpbgglkopfjagaaProg
import Derived.Deep.AppendLies
/- Contract of tri.Condition. -/
namespace Go.Proofs.Ytpbgglkopfjagaa
open Go.RowKit
set_option maxRecDepth 100000
theorem variance_any (c : Addr) (h : Bool) (a : Int) (w : World) (hc : w.cell? c = some (.bool h)) (hf : w.frozen? c = false) :
    Calls Try.prog 35 #[.pointer (some c), .int .i64 a] w fun e w' => e = .returned (.int .i64 (clampV a 1 72057594037927936)) ∧ w.setCell c (.bool (h || clampH a 1 72057594037927936)) = w' := by
  go_enter Try.func35, Try.ntmps35
  go_wp2_with (go_at_call 41; refine (clamp_any c h a _ _ _ hc hf).mono ?_; rintro e w' ⟨rfl, rfl⟩)
  go_ret
  exact ⟨rfl, rfl⟩
/-- A covariance as 300 numbers: U's first, then D's. -/
def condF (f : Nat → Int) : Nat → Int := fun i => if i < 276 then satV (f i) else varV (f i)
def condH (f : Nat → Int) : Bool := orB (fun i => varH (f (276 + i))) 24 || orB (fun i => satH (f i)) 276
def condD (f : Nat → Int) (k : Nat) : Nat → Int := fun i => if 276 ≤ i ∧ i < 276 + k then varV (f i) else f i
def condU (f : Nat → Int) (k : Nat) : Nat → Int := fun i => if i < k then satV (f i) else if 276 ≤ i then varV (f i) else f i
structure CondR (c : Addr) (h : Bool) (g : Nat → Int) (w wr : World) : Prop where
  upd : Upd c h w wr
  blk : Blk wr w.heap.size 26 300 g
  res : Blk wr (w.heap.size + 1) 26 300 (fun _ => 0)
theorem zcov : Try.zeroCells26 = arrv 300 (fun _ => 0) := by kernel_rfl
theorem icov : (Try.prog.info? 26).map (·.size) = some 300 := by kernel_rfl
theorem cond_any (c : Addr) (h : Bool) (f : Nat → Int) (w : World) (hc : w.cell? c = some (.bool h)) (hf : w.frozen? c = false) :
    Calls Try.prog 19 #[.pointer (some c), .agg (arrv 300 f)] w fun e w' => e = .returned (.agg (arrv 300 (condF f))) ∧ Upd c (h || condH f) w w' := by
  have hcb := World.block_lt_of_cell? w c hc
  have HC := Lib.hid hc
  have HF := Lib.hid hf
  clear hc hf
  go_enter Try.func19, Try.ntmps19
  go_wp2_with fail
  go_loopw [7] (fun i wr => ∃ k : Nat, k ≤ 24 ∧ i = .int .i64 k ∧ Hid (CondR c (h || orB (fun i => varH (f (276 + i))) k) (condD f k) w wr)) (fun i _ => 24 - (intOf i).toNat)
  case atStart =>
    refine ⟨0, by omega, rfl, ⟨?_, ?_, ?_⟩⟩
    · rw [show (h || orB (fun i => varH (f (276 + i))) 0) = h from by simp [orB]]
      exact Upd.then (Upd.refl HC.out) (by (repeat (first | with_reducible exact Below.refl _ _ | with_reducible apply Below.drew | (with_reducible refine below_drewN ?_ _) | (with_reducible refine Below.alloc ?_ (by (try simp) <;> omega) _) | (with_reducible refine Below.setCell ?_ (by (try simp) <;> omega) _))))
    · exact (Blk.alloc (Blk.new w _ 300 f) _).congr fun i hi => by simp [condD]; omega
    · rw [zcov]; exact Blk.new1 w _ _ 300 _
  case round =>
    obtain ⟨k, hk, rfl, R⟩ := hrel
    by_cases hlt : k < 24
    · have rc := R.out.upd.cellc HC.out
      have rf := (R.out.upd.frozen hcb).trans HF.out
      have b0 := R.out.blk.cell (i := 276 + k) (by omega)
      have b1 := R.out.blk.free (276 + k)
      have n0 := ne_of_cells rc b0
      have hv : condD f k (276 + k) = f (276 + k) := by simp [condD]
      rw [hv] at b0
      clear hv
      go_wp2_with (go_at_call 35; refine (variance_any c _ _ _ rc rf).mono ?_; rintro e w' ⟨rfl, rfl⟩)
      go_roundw
      case rel =>
        refine ⟨k + 1, by omega, by go_num, ⟨?_, ?_, ?_⟩⟩
        · rw [show (h || orB (fun i => varH (f (276 + i))) (k + 1)) = (h || orB (fun i => varH (f (276 + i))) k || clampH (f (276 + k)) 1 72057594037927936) from by simp [orB, varH, Bool.or_assoc]]
          exact (R.out.upd.trans (Upd.set c _ _)).setCell (Nat.le_refl _) _
        · refine ((R.out.blk.other (R.out.blk.flag rc) _).set _ _).congr fun i hi => ?_
          simp only [Go.Proofs.Ytpbgglkopfjagaa.upd, condD, varV]
          by_cases h1 : i = 276 + k
          · subst h1; simp
          · rw [if_neg h1]; split <;> split <;> first | rfl | omega
        · exact (R.out.res.other (R.out.res.flag rc) _).other (by simp) _
      case measure => simp [intOf]; omega
    · have hk24 : k = 24 := by omega
      subst hk24
      have HR := R
      clear R hlt hk
      rw [show ((24 : Nat) : Int) = 24 from rfl]
      go_wp2_with fail
      go_loopw [20] (fun i wr => ∃ k : Nat, k ≤ 276 ∧ i = .int .i64 k ∧ Hid (CondR c (h || orB (fun i => varH (f (276 + i))) 24 || orB (fun i => satH (f i)) k) (condU f k) w wr)) (fun i _ => 276 - (intOf i).toNat)
      case atStart =>
        refine ⟨0, by omega, rfl, ⟨?_, HR.out.blk.congr fun i hi => by simp [condD, condU]; split <;> split <;> first | rfl | omega, HR.out.res⟩⟩
        rw [show (h || orB (fun i => varH (f (276 + i))) 24 || orB (fun i => satH (f i)) 0) = (h || orB (fun i => varH (f (276 + i))) 24) from by simp [orB]]
        exact HR.out.upd
      case round =>
        obtain ⟨k, hk, rfl, R⟩ := hrel
        by_cases hlt : k < 276
        · have rc := R.out.upd.cellc HC.out
          have rf := (R.out.upd.frozen hcb).trans HF.out
          have b0 := R.out.blk.cell (i := k) (by omega)
          have b1 := R.out.blk.free k
          have n0 := ne_of_cells rc b0
          have hv : condU f k k = f k := by simp [condU]; omega
          rw [hv] at b0
          clear hv
          go_wp2_with (go_at_call 41; refine (clamp_any c _ _ _ _ _ rc rf).mono ?_; rintro e w' ⟨rfl, rfl⟩)
          go_roundw
          case rel =>
            refine ⟨k + 1, by omega, by go_num, ⟨?_, ?_, ?_⟩⟩
            · rw [show (h || orB (fun i => varH (f (276 + i))) 24 || orB (fun i => satH (f i)) (k + 1)) = (h || orB (fun i => varH (f (276 + i))) 24 || orB (fun i => satH (f i)) k || clampH (f k) (-1152921504606846976) 1152921504606846976) from by simp [orB, satH, Bool.or_assoc]]
              exact (R.out.upd.trans (Upd.set c _ _)).setCell (Nat.le_refl _) _
            · refine ((R.out.blk.other (R.out.blk.flag rc) _).set _ _).congr fun i hi => ?_
              simp only [Go.Proofs.Ytpbgglkopfjagaa.upd, condU, satV]
              by_cases h1 : i = k
              · subst h1; simp
              · rw [if_neg h1]; repeat' split
                all_goals first | rfl | omega
            · exact (R.out.res.other (R.out.res.flag rc) _).other (by simp) _
          case measure => simp [intOf]; omega
        · have hk276 : k = 276 := by omega
          subst hk276
          have B0 := R.out.blk
          have B1 := R.out.res
          have U := Lib.hid R.out.upd
          have hl := B1.lt
          clear R hlt hk HR
          go_wp2_with (first | (refine wpList_load_row rfl 26 _ rfl w.heap.size rfl 26 _ (0, 0) _ B0 Try.underlying26 rfl (icov.trans (by rw [arrv_size])) ?_) | (refine wpList_store_row rfl 26 _ _ rfl (w.heap.size + 1) _ rfl rfl 26 _ B1 (icov.trans (by rw [arrv_size])) (by rw [arrv_size, arrv_size]) (oneCell_arrv _ _) ?_))
          refine bodyPost_ret (results_cell_row Try.results19 _ _ (w.heap.size + 1) 26 (arrv 300 (condU f 276)) (0, 0) _ rfl (setRow_heap _ _ _ _ _ _ B1) Try.underlying26 rfl (icov.trans (by rw [arrv_size]))) rfl ⟨?_, ?_⟩
          · rw [arrv_congr (g := condF f) fun i hi => ?_]
            simp only [condU, condF]
            by_cases h1 : i < 276
            · simp [h1]
            · rw [if_neg h1, if_neg h1, if_pos (by omega)]
          · rw [show (h || condH f) = (h || orB (fun i => varH (f (276 + i))) 24 || orB (fun i => satH (f i)) 276) from by simp [condH, Bool.or_assoc]]
            exact U.out.then' (below_row (Below.refl _ _) (by omega) _)
end Go.Proofs.Ytpbgglkopfjagaa
/- Contracts of package tri (2): Good, place, U, Set. -/
namespace Go.Proofs.Ytpbgglkopfjagaa
open Go.RowKit
set_option maxRecDepth 100000
theorem pl_lt {i j : Nat} (h : i < j) (hj : j < 24) : pl i j < 276 := by
  unfold pl
  have : j * (j - 1) ≤ 23 * 22 := Nat.mul_le_mul (by omega) (by omega)
  omega
theorem pl_cast (i j : Nat) : ((pl i j : Nat) : Int) = (j : Int) * ((j - 1 : Nat) : Int) / 2 + (i : Int) := by
  unfold pl
  rw [← Int.natCast_mul]
  omega
theorem place_any (i j : Nat) (w : World) (_hi : i < 24) (hj : j < 24) :
    Calls Try.prog 66 #[.int .i64 i, .int .i64 j] w fun e w' => e = .returned (.tuple #[.int .i64 (pl i j : Nat), .bool (decide (i < j))]) ∧ w = w' := by
  have hmul : (j : Int) * ((j : Int) - 1) = ((j * (j - 1) : Nat) : Int) := by
    cases j with
    | zero => simp
    | succ n => rw [Int.natCast_mul, show ((n + 1 : Nat) : Int) - 1 = ((n + 1 - 1 : Nat) : Int) from by omega]
  have hb : j * (j - 1) ≤ 23 * 22 := Nat.mul_le_mul (by omega) (by omega)
  have hc := pl_cast i j
  have HC := Lib.hid hc
  clear hc
  by_cases h : i < j
  · have hd : decide (i < j) = true := by simpa using h
    rw [hd]
    clear hd
    go_enter Try.func66, Try.ntmps66
    go_wp2
    go_ret2
    refine ⟨?_, rfl⟩
    rw [HC.out]
    simp only [hj, decide_true, Int.ofNat_lt, and_self]
    first | rfl | (simp; omega) | simp
  · have hd : decide (i < j) = false := by simpa using h
    rw [hd]
    go_enter Try.func66, Try.ntmps66
    go_wp2
    go_ret2
    refine ⟨?_, rfl⟩
    rw [HC.out]
    first | rfl | (simp; done) | (simp; omega)
/-- U's number of row i and column j. -/
def uV (f : Nat → Int) (i j : Nat) : Int := if i = j then 1073741824 else if i < j then f (pl i j) else 0
theorem u_any (f : Nat → Int) (i j : Nat) (w : World) (hi : i < 24) (hj : j < 24) :
    Calls Try.prog 45 #[.agg (arrv 300 f), .int .i64 i, .int .i64 j] w fun e w' => e = .returned (.int .i64 (uV f i j)) ∧ Below w.heap.size w w' := by
  by_cases h : i = j
  · subst h
    rw [show uV f i i = 1073741824 from by simp [uV]]
    go_enter Try.func45, Try.ntmps45
    go_wp2
    go_ret
    exact ⟨rfl, by (repeat (first | with_reducible exact Below.refl _ _ | with_reducible apply Below.drew | (with_reducible refine below_drewN ?_ _) | (with_reducible refine Below.alloc ?_ (by (try simp) <;> omega) _) | (with_reducible refine Below.setCell ?_ (by (try simp) <;> omega) _)))⟩
  · have hne : ((i : Int) == (j : Int)) = false := by simp; omega
    by_cases h1 : i < j
    · have hp := pl_lt h1 hj
      have ev : uV f i j = f (pl i j) := by simp [uV, h, h1]
      obtain ⟨p, hpp⟩ : ∃ p, pl i j = p := ⟨_, rfl⟩
      have PC := Lib.hid (place_any i j)
      rw [hpp] at hp ev PC
      rw [ev, show decide (i < j) = true from by simpa using h1] at *
      have b0 := (Blk.new w 26 300 f).cell (i := p) (by omega)
      clear h hpp ev
      go_enter Try.func45, Try.ntmps45
      go_wp2_with (go_at_call 66; refine (PC.out _ hi hj).mono ?_; rintro e w' ⟨rfl, rfl⟩)
      go_ret
      exact ⟨rfl, by (repeat (first | with_reducible exact Below.refl _ _ | with_reducible apply Below.drew | (with_reducible refine below_drewN ?_ _) | (with_reducible refine Below.alloc ?_ (by (try simp) <;> omega) _) | (with_reducible refine Below.setCell ?_ (by (try simp) <;> omega) _)))⟩
    · have ev : uV f i j = 0 := by simp [uV, h, h1]
      have PC := Lib.hid (place_any i j)
      rw [ev]
      rw [show decide (i < j) = false from by simpa using h1] at PC
      clear h ev
      go_enter Try.func45, Try.ntmps45
      go_wp2_with (go_at_call 66; refine (PC.out _ hi hj).mono ?_; rintro e w' ⟨rfl, rfl⟩)
      go_ret
      exact ⟨rfl, by (repeat (first | with_reducible exact Below.refl _ _ | with_reducible apply Below.drew | (with_reducible refine below_drewN ?_ _) | (with_reducible refine Below.alloc ?_ (by (try simp) <;> omega) _) | (with_reducible refine Below.setCell ?_ (by (try simp) <;> omega) _)))⟩
theorem set_any (f : Nat → Int) (i j : Nat) (v : Int) (w : World) (h1 : i < j) (hj : j < 24) :
    Calls Try.prog 46 #[.agg (arrv 300 f), .int .i64 i, .int .i64 j, .int .i64 v] w fun e w' => e = .returned (.agg (arrv 300 (upd f (pl i j) v))) ∧ Below w.heap.size w w' := by
  have hp := pl_lt h1 hj
  have hi : i < 24 := by omega
  obtain ⟨p, hpp⟩ : ∃ p, pl i j = p := ⟨_, rfl⟩
  have pc : ∀ w, Calls Try.prog 66 #[.int .i64 i, .int .i64 j] w fun e w' => e = .returned (.tuple #[.int .i64 p, .bool true]) ∧ w = w' := fun w => by
    have := place_any i j w hi hj
    rwa [hpp, show decide (i < j) = true from by simpa using h1] at this
  rw [hpp] at hp ⊢
  have PC := Lib.hid pc
  clear pc hpp h1 hi hj
  go_enter Try.func46, Try.ntmps46
  go_wp2_with fail
  have A0 := (Blk.new w 26 300 f).alloc (.cells Try.zeroCells26 26)
  have A1 := Blk.new1 w (.cells (arrv 300 f) 26) 26 300 (fun _ => 0)
  rw [← zcov] at A1
  have hb : Below w.heap.size w ((w.alloc (.cells (arrv 300 f) 26)).alloc (.cells Try.zeroCells26 26)) := by (repeat (first | with_reducible exact Below.refl _ _ | with_reducible apply Below.drew | (with_reducible refine below_drewN ?_ _) | (with_reducible refine Below.alloc ?_ (by (try simp) <;> omega) _) | (with_reducible refine Below.setCell ?_ (by (try simp) <;> omega) _)))
  refine (PC.out _).mono ?_; rintro e w' ⟨rfl, rfl⟩
  generalize (w.alloc (.cells (arrv 300 f) 26)).alloc (.cells Try.zeroCells26 26) = W at *
  have b0 := A0.cell (i := p) (by omega)
  have b1 := A0.free p
  have B0 := A0.set p v
  have B1 := A1.other (a := ⟨w.heap.size, p, none⟩) (by simp) (.int .i64 v)
  go_wp2_with (first | (refine wpList_load_row rfl 26 _ rfl w.heap.size rfl 26 _ (0, 0) _ B0 Try.underlying26 rfl (icov.trans (by rw [arrv_size])) ?_) | (refine wpList_store_row rfl 26 _ _ rfl (w.heap.size + 1) _ rfl rfl 26 _ B1 (icov.trans (by rw [arrv_size])) (by rw [arrv_size, arrv_size]) (oneCell_arrv _ _) ?_))
  refine bodyPost_ret (results_cell_row Try.results46 _ _ (w.heap.size + 1) 26 (arrv 300 (upd f p v)) (0, 0) _ rfl (setRow_heap _ _ _ _ _ _ B1) Try.underlying26 rfl (icov.trans (by rw [arrv_size]))) rfl ⟨rfl, ?_⟩
  exact below_row (hb.setCell (Nat.le_refl _) _) (by omega) _
end Go.Proofs.Ytpbgglkopfjagaa
/- Contracts of package thornton (1): One, rows. -/
namespace Go.Proofs.Ytpbgglkopfjagaa
open Go.RowKit
set_option maxRecDepth 100000
/-- Column k of U; row i of a matrix. -/
def colF (f : Nat → Int) (k : Nat) : Nat → Int := fun m => if m ≤ k then uV f m k else 0
end Go.Proofs.Ytpbgglkopfjagaa
/- Contract of thornton.rows. -/
namespace Go.Proofs.Ytpbgglkopfjagaa
open Go.RowKit
set_option maxRecDepth 100000
end Go.Proofs.Ytpbgglkopfjagaa
/- thornton.Step (1): the numbers, and the first loop. -/
namespace Go.Proofs.Ytpbgglkopfjagaa
open Go.RowKit
set_option maxRecDepth 100000
end Go.Proofs.Ytpbgglkopfjagaa
/- Contract of tri.New: noughts above the diagonal, the variances given, and the least variance where none is given. -/
namespace Go.Proofs.Ytpbgglkopfjagaa
open Go.RowKit
set_option maxRecDepth 100000
def newF (n : Nat) (L : Nat → Int) : Nat → Int := fun i => if i < 276 then 0 else if i - 276 < n then varV (L (i - 276)) else 1
def newB (n : Nat) (L : Nat → Int) (i : Nat) : Bool := if i < n then varH (L i) else false
def newH (n : Nat) (L : Nat → Int) : Bool := orB (newB n L) 24
def newI (n : Nat) (L : Nat → Int) (k : Nat) : Nat → Int := fun i => if i < 276 then 0 else if i < 276 + k then (if i - 276 < n then varV (L (i - 276)) else 1) else 0
theorem new_any (c : Addr) (h : Bool) (p : Option Addr) (n cp : Nat) (L : Nat → Int) (w : World) (hc : w.cell? c = some (.bool h)) (hf : w.frozen? c = false) (hL : Slc w p n L) :
    Calls Try.prog 16 #[.pointer (some c), .slice p n cp] w fun e w' => e = .returned (.agg (arrv 300 (newF n L))) ∧ Upd c (h || newH n L) w w' := by
  have hcb := World.block_lt_of_cell? w c hc
  have HC := Lib.hid hc
  have HF := Lib.hid hf
  have HL := Lib.hid hL
  clear hc hf hL
  go_enter Try.func16, Try.ntmps16
  go_wp2_with fail
  go_loopw [7] (fun i wr => ∃ k : Nat, k ≤ 24 ∧ i = .int .i64 k ∧ Hid (Upd c (h || orB (newB n L) k) w wr ∧ Blk wr w.heap.size 26 300 (fun _ => 0) ∧ Blk wr (w.heap.size + 1) 26 300 (newI n L k))) (fun i _ => 24 - (intOf i).toNat)
  case atStart =>
    refine ⟨0, by omega, rfl, ?_, ?_, ?_⟩
    · rw [show (h || orB (newB n L) 0) = h from by simp [orB]]
      exact Upd.then (Upd.refl HC.out) (by (repeat (first | with_reducible exact Below.refl _ _ | with_reducible apply Below.drew | (with_reducible refine below_drewN ?_ _) | (with_reducible refine Below.alloc ?_ (by (try simp) <;> omega) _) | (with_reducible refine Below.setCell ?_ (by (try simp) <;> omega) _))))
    · rw [zcov]; exact (Blk.new w _ _ _).alloc _
    · rw [zcov]; exact (Blk.new1 w _ _ _ _).congr fun i hi => by simp only [newI]; split <;> first | rfl | (rw [if_neg (by omega)])
  case round =>
    obtain ⟨k, hk, rfl, R⟩ := hrel
    by_cases hlt : k < 24
    · have d1 : decide ((k : Int) < 24) = true := by simp; omega
      have b0 := R.out.2.2.cell (i := 276 + k) (by omega)
      have b1 := R.out.2.2.free (276 + k)
      by_cases hkn : k < n
      · have d2 : decide ((k : Int) < (n : Int)) = true := by simp; omega
        obtain ⟨pb, po, rfl, hcell⟩ := HL.out k hkn
        have hne : (⟨pb, po + k, none⟩ : Addr) ≠ c := fun e => by rw [e, HC.out] at hcell; cases hcell
        have hpl := World.block_lt_of_cell? _ _ hcell
        have U1 : Upd c (h || orB (newB n L) k) w (wr.setCell ⟨w.heap.size + 1, 276 + k, none⟩ (.int .i64 1)) := R.out.1.setCell (by simp) _
        have rc := U1.cellc HC.out
        have rf := (U1.frozen hcb).trans HF.out
        have hcell' : wr.cell? ⟨pb, po + k, none⟩ = some (.int .i64 (L k)) := (R.out.1.cell hpl (Ne.symm hne)).trans hcell
        have hpn : pb ≠ w.heap.size + 1 := by simp at hpl; omega
        have hcell2 : (wr.setCell ⟨w.heap.size + 1, 276 + k, none⟩ (.int .i64 1)).cell? ⟨pb, po + k, none⟩ = some (.int .i64 (L k)) := (World.cell?_setCell_other _ _ _ _ (by intro e; injection e; omega)).trans hcell'
        have CC := Lib.hid (variance_any c _ (L k) _ rc rf)
        have S0 := Lib.hid (R.out.2.2.set (276 + k) 1)
        have T0 := Lib.hid (R.out.2.1.other (a := ⟨w.heap.size + 1, 276 + k, none⟩) (by simp) (.int .i64 1))
        have HU1 := Lib.hid U1
        clear U1 rc rf hcell' R
        go_wp2_with (go_at_call 35; refine CC.out.mono ?_; rintro e w' ⟨rfl, hw'⟩; have U3 := (Upd.set c (h || orB (newB n L) k || varH (L k)) (wr.setCell ⟨w.heap.size + 1, 276 + k, none⟩ (.int .i64 1))).then (by rw [show varH (L k) = clampH (L k) 1 72057594037927936 from rfl, hw']; exact Below.refl _ _); have HU2 := Lib.hid (HU1.out.trans U3); have S2 := S0.out.upd U3 (by have := hcb; omega); have HR2 := Lib.hid (T0.out.upd U3 (by have := hcb; omega)); have c0 := S2.cell (i := 276 + k) (by omega); have c1 := S2.free (276 + k); have HS2 := Lib.hid S2; clear hw' U3 S2)
        go_roundw
        case rel =>
          refine ⟨k + 1, by omega, by go_num, ?_, HR2.out.other (by simp) _, ?_⟩
          · rw [show (h || orB (newB n L) (k + 1)) = (h || orB (newB n L) k || varH (L k)) from by simp [orB, newB, hkn, Bool.or_assoc]]
            exact HU2.out.setCell (by simp) _
          · refine (HS2.out.set _ _).congr fun i hi => ?_
            simp only [Go.Proofs.Ytpbgglkopfjagaa.upd, newI]
            by_cases h1 : i = 276 + k
            · subst h1; rw [if_pos rfl, if_neg (by omega), if_pos (by omega), show 276 + k - 276 = k by omega, if_pos hkn]; rfl
            · rw [if_neg h1, if_neg h1]; split <;> first | rfl | (split <;> split <;> first | rfl | omega)
        case measure => simp [intOf]; omega
      · have d2 : decide ((k : Int) < (n : Int)) = false := by simp; omega
        go_wp2_with fail
        go_roundw
        case rel =>
          refine ⟨k + 1, by omega, by go_num, ?_, R.out.2.1.other (by simp) _, ?_⟩
          · rw [show (h || orB (newB n L) (k + 1)) = (h || orB (newB n L) k) from by simp [orB, newB, hkn]]
            exact R.out.1.setCell (by simp) _
          · refine (R.out.2.2.set _ _).congr fun i hi => ?_
            simp only [Go.Proofs.Ytpbgglkopfjagaa.upd, newI]
            by_cases h1 : i = 276 + k
            · subst h1; rw [if_pos rfl, if_neg (by omega), if_pos (by omega), show 276 + k - 276 = k by omega, if_neg hkn]
            · rw [if_neg h1]; split; rfl; split <;> split <;> first | rfl | omega
        case measure => simp [intOf]; omega
    · have hk24 : k = 24 := by omega
      subst hk24
      have B0 := R.out.2.1
      have B1 := R.out.2.2
      have HB := Lib.hid R.out.1
      clear R hlt hk
      rw [show ((24 : Nat) : Int) = 24 from rfl]
      go_wp2_with (first | (refine wpList_load_row rfl 26 _ rfl (w.heap.size + 1) rfl 26 _ (0, 0) _ B1 Try.underlying26 rfl (icov.trans (by rw [arrv_size])) ?_) | (refine wpList_store_row rfl 26 _ _ rfl w.heap.size _ rfl rfl 26 _ B0 (icov.trans (by rw [arrv_size])) (by rw [arrv_size, arrv_size]) (oneCell_arrv _ _) ?_))
      refine bodyPost_ret (results_cell_row Try.results16 _ _ w.heap.size 26 (arrv 300 (newI n L 24)) (0, 0) _ rfl (setRow_heap _ _ _ _ _ _ B0) Try.underlying26 rfl (icov.trans (by rw [arrv_size]))) rfl ⟨?_, ?_⟩
      · rw [arrv_congr (g := newF n L) fun i hi => by simp only [newI, newF]; split <;> first | rfl | (rw [if_pos (by omega)])]
      · exact HB.out.then' (below_row (Below.refl _ _) (Nat.le_refl _) _)
end Go.Proofs.Ytpbgglkopfjagaa
/- Contract of thornton.With: Step with One and the noises given. -/
namespace Go.Proofs.Ytpbgglkopfjagaa
open Go.RowKit
set_option maxRecDepth 100000
end Go.Proofs.Ytpbgglkopfjagaa
/- bierman's numbers: what an update reckons with, and what it makes. No program. -/
namespace Go.Proofs.Ytpbgglkopfjagaa
/-- The first n numbers clamped, the others as they were. -/
def satS (H : Nat → Int) (n : Nat) : Nat → Int := fun i => if i < n then satV (H i) else H i
/-- Of the factors p (conditioned) and the row h (clamped): f, v, a. -/
def bkF (p h : Nat → Int) (j : Nat) : Int := dotV 30 h (colF p j) (j + 1)
def bkV (p h : Nat → Int) (j : Nat) : Int := mulV (p (276 + j)) (bkF p h j) 30
def bkA (p h : Nat → Int) (r : Int) : Nat → Int | 0 => r | j + 1 => addV (bkA p h r j) (mulV (bkF p h j) (bkV p h j) 30)
def bkFH (p h : Nat → Int) (j : Nat) : Bool := dotH 30 h (colF p j) (j + 1)
def bkVH (p h : Nat → Int) (j : Nat) : Bool := mulH (p (276 + j)) (bkF p h j) 30
def bkAH (p h : Nat → Int) (r : Int) (j : Nat) : Bool := mulH (bkF p h j) (bkV p h j) 30 || addH (bkA p h r j) (mulV (bkF p h j) (bkV p h j) 30)
def bkS (p h : Nat → Int) (r : Int) (j : Nat) : Bool := bkFH p h j || bkVH p h j || bkAH p h r j
def lkH (p h : Nat → Int) (r : Int) : Bool := condH p || orB (fun i => satH (h i)) 24 || varH r || orB (bkS (condF p) (satS h 24) (varV r)) 24
/-- Update: row j of the gains' numbers, and the factors. -/
def upX (p h : Nat → Int) (r : Int) (j : Nat) : Int := -divV (bkF p h j) (bkA p h r j) 44
def upD (p h : Nat → Int) (r : Int) (j : Nat) : Int := varV (mdivV (p (276 + j)) (bkA p h r j) (bkA p h r (j + 1)))
/-- b, when j columns are done and of column j the first m rows. -/
def upB (p h : Nat → Int) : Nat → Nat → Int
  | 0 => fun _ => 0
  | j + 1 => fun i => if i = j then bkV p h j else if i < j then addV (upB p h j i) (mulV (uV p i j) (bkV p h j) 30) else upB p h j i
def upBm (p h : Nat → Int) (j m : Nat) : Nat → Int :=
  fun i => if i = j then bkV p h j else if i < m then addV (upB p h j i) (mulV (uV p i j) (bkV p h j) 30) else upB p h j i
def upU (p h : Nat → Int) (r : Int) (j i : Nat) : Int := addV (uV p i j) (mulV (upB p h j i) (upX p h r j) 44)
/-- The factors: column j begun, and m of its numbers made. -/
def upOm (O p h : Nat → Int) (r : Int) (j : Nat) : Nat → Nat → Int | 0 => upd O (276 + j) (upD p h r j) | m + 1 => upd (upOm O p h r j m) (pl m j) (upU p h r j m)
def upO (p h : Nat → Int) (r : Int) : Nat → Nat → Int | 0 => p | j + 1 => upOm (upO p h r j) p h r j j
def upDH (p h : Nat → Int) (r : Int) (j : Nat) : Bool := mdivH (p (276 + j)) (bkA p h r j) (bkA p h r (j + 1)) || varH (mdivV (p (276 + j)) (bkA p h r j) (bkA p h r (j + 1)))
def upXH (p h : Nat → Int) (r : Int) (j : Nat) : Bool := divH (bkF p h j) (bkA p h r j) 44
def upUH (p h : Nat → Int) (r : Int) (j i : Nat) : Bool := mulH (upB p h j i) (upX p h r j) 44 || addH (uV p i j) (mulV (upB p h j i) (upX p h r j) 44)
def upBH (p h : Nat → Int) (j i : Nat) : Bool := mulH (uV p i j) (bkV p h j) 30 || addH (upB p h j i) (mulV (uV p i j) (bkV p h j) 30)
def upRH (p h : Nat → Int) (r : Int) (j i : Nat) : Bool := upUH p h r j i || upBH p h j i
def upCH (p h : Nat → Int) (r : Int) (j : Nat) : Bool := upDH p h r j || upXH p h r j || orB (upRH p h r j) j
def upG (p h : Nat → Int) (r : Int) (i : Nat) : Int := divV (upB p h 24 i) (bkA p h r 24) 30
def upGH (p h : Nat → Int) (r : Int) (i : Nat) : Bool := divH (upB p h 24 i) (bkA p h r 24) 30
/-- Update's answer, of what was given. -/
def updP (p h : Nat → Int) (r : Int) : Nat → Int := upO (condF p) (satS h 24) (varV r) 24
def updG (p h : Nat → Int) (r : Int) : Nat → Int := upG (condF p) (satS h 24) (varV r)
def updS (p h : Nat → Int) (r : Int) : Int := bkA (condF p) (satS h 24) (varV r) 24
def updH (p h : Nat → Int) (r : Int) : Bool := lkH p h r || orB (upCH (condF p) (satS h 24) (varV r)) 24 || orB (upGH (condF p) (satS h 24) (varV r)) 24
end Go.Proofs.Ytpbgglkopfjagaa
/- Contract of bierman.Pick. -/
namespace Go.Proofs.Ytpbgglkopfjagaa
open Go.RowKit
set_option maxRecDepth 100000
theorem irow : (Try.prog.info? 39).map (·.size) = some 24 := by kernel_rfl
theorem zrow : (#[.int .i64 0, .int .i64 0, .int .i64 0, .int .i64 0, .int .i64 0, .int .i64 0, .int .i64 0, .int .i64 0, .int .i64 0, .int .i64 0, .int .i64 0, .int .i64 0, .int .i64 0, .int .i64 0, .int .i64 0, .int .i64 0, .int .i64 0, .int .i64 0, .int .i64 0, .int .i64 0, .int .i64 0, .int .i64 0, .int .i64 0, .int .i64 0] : Array Value) = arrv 24 (fun _ => 0) := by kernel_rfl
/-- One at each state that is named. -/
def pkS (L : Nat → Int) : Nat → Nat → Int | 0 => fun _ => 0 | n + 1 => if 0 ≤ L n ∧ L n < 24 then upd (pkS L n) (L n).toNat 1073741824 else pkS L n
theorem pick_any (p : Option Addr) (n cp : Nat) (L : Nat → Int) (w : World) (hL : Slc w p n L) (hn : n ≤ 9223372036854775807) :
    Calls Try.prog 17 #[.slice p n cp] w fun e w' => e = .returned (.agg (arrv 24 (pkS L n))) ∧ Below w.heap.size w w' := by
  have HL := Lib.hid hL
  clear hL
  go_enter Try.func17, Try.ntmps17
  go_wp2_with fail
  go_loopw [8] (fun i wr => ∃ k : Nat, k ≤ n ∧ i = .int .i64 k ∧ Hid (Below w.heap.size w wr ∧ Blk wr w.heap.size 39 24 (fun _ => 0) ∧ Blk wr (w.heap.size + 1) 39 24 (pkS L k))) (fun i _ => n - (intOf i).toNat)
  case atStart =>
    refine ⟨0, by omega, rfl, by (repeat (first | with_reducible exact Below.refl _ _ | with_reducible apply Below.drew | (with_reducible refine below_drewN ?_ _) | (with_reducible refine Below.alloc ?_ (by (try simp) <;> omega) _) | (with_reducible refine Below.setCell ?_ (by (try simp) <;> omega) _))), ?_, ?_⟩
    · rw [zrow]; exact (Blk.new w _ _ _).alloc _
    · rw [zrow]; exact Blk.new1 w _ _ _ _
  case round =>
    obtain ⟨k, hk, rfl, R⟩ := hrel
    by_cases hlt : k < n
    · have d1 : decide ((k : Int) < (n : Int)) = true := by simp; omega
      obtain ⟨pb, po, rfl, hcell⟩ := HL.out k hlt
      have hc1 : wr.cell? ⟨pb, po + k, none⟩ = some (.int .i64 (L k)) := (R.out.1.cell (World.block_lt_of_cell? _ _ hcell)).trans hcell
      by_cases h0 : 0 ≤ L k
      · by_cases h1 : L k < 24
        · have hx : ((L k).toNat : Int) = L k := by omega
          obtain ⟨x, hxk⟩ : ∃ x, (L k).toNat = x := ⟨_, rfl⟩
          have hLx : L k = (x : Int) := by omega
          have hxl : x < 24 := by omega
          rw [hLx] at hc1
          have b0 := R.out.2.2.cell (i := x) hxl
          have b1 := R.out.2.2.free x
          have HX := Lib.hid hLx
          have HR := Lib.hid R.out
          clear hx hxk hLx h0 h1 R hcell
          have hx0 : (0 : Int) ≤ (x : Int) := Int.natCast_nonneg _
          have hx1 : (x : Int) < 24 := by omega
          go_wp2_with fail
          go_roundw
          case rel =>
            refine ⟨k + 1, by omega, by go_num, HR.out.1.setCell (by simp) _, HR.out.2.1.other (by simp) _, ?_⟩
            have := HR.out.2.2.set x 1073741824
            have e : pkS L (k + 1) = upd (pkS L k) x 1073741824 := by
              simp only [pkS]
              rw [if_pos (by rw [HX.out]; omega), HX.out]; rfl
            rw [e]; exact this
          case measure => simp [intOf]; omega
        · have d2 : decide (L k < 24) = false := by simp; omega
          have d3 : decide (0 ≤ L k) = true := by simp; omega
          have HR := Lib.hid R.out
          have e : pkS L (k + 1) = pkS L k := by simp only [pkS]; rw [if_neg (by omega)]
          have HE := Lib.hid e
          clear R hcell e
          go_wp2_with fail
          go_roundw
          case rel =>
            refine ⟨k + 1, by omega, by go_num, HR.out.1, HR.out.2.1, ?_⟩
            rw [HE.out]; exact HR.out.2.2
          case measure => simp [intOf]; omega
      · have d3 : decide (0 ≤ L k) = false := by simp; omega
        have HR := Lib.hid R.out
        have e : pkS L (k + 1) = pkS L k := by simp only [pkS]; rw [if_neg (by omega)]
        have HE := Lib.hid e
        clear R hcell e
        go_wp2_with fail
        go_roundw
        case rel =>
          refine ⟨k + 1, by omega, by go_num, HR.out.1, HR.out.2.1, ?_⟩
          rw [HE.out]; exact HR.out.2.2
        case measure => simp [intOf]; omega
    · obtain rfl : k = n := by omega
      have B0 := R.out.2.1
      have B1 := R.out.2.2
      have HB := Lib.hid R.out.1
      clear R hlt hk
      go_wp2_with (first | (refine wpList_load_row rfl 39 _ rfl (w.heap.size + 1) rfl 39 _ (0, 0) _ B1 Try.underlying39 rfl (irow.trans (by rw [arrv_size])) ?_) | (refine wpList_store_row rfl 39 _ _ rfl w.heap.size _ rfl rfl 39 _ B0 (irow.trans (by rw [arrv_size])) (by rw [arrv_size, arrv_size]) (oneCell_arrv _ _) ?_))
      refine bodyPost_ret (results_cell_row Try.results17 _ _ w.heap.size 39 (arrv 24 (pkS L k)) (0, 0) _ rfl (setRow_heap _ _ _ _ _ _ B0) Try.underlying39 rfl (irow.trans (by rw [arrv_size]))) rfl ⟨rfl, ?_⟩
      exact below_row HB.out (Nat.le_refl _) _
end Go.Proofs.Ytpbgglkopfjagaa
/- Contract of bierman.Gain. -/
namespace Go.Proofs.Ytpbgglkopfjagaa
open Go.RowKit
set_option maxRecDepth 100000
def gnF (K : Nat → Int) (y : Int) (n : Nat) : Nat → Int := fun i => if i < n then mulV (K i) y 30 else K i
def gnB (K : Nat → Int) (y : Int) (i : Nat) : Bool := mulH (K i) y 30
theorem gain_any (c : Addr) (h : Bool) (K : Nat → Int) (y : Int) (w : World) (hc : w.cell? c = some (.bool h)) (hf : w.frozen? c = false) :
    Calls Try.prog 24 #[.pointer (some c), .agg (arrv 24 K), .int .i64 y] w fun e w' => e = .returned (.agg (arrv 24 (gnF K y 24))) ∧ Upd c (h || orB (gnB K y) 24) w w' := by
  have hcb := World.block_lt_of_cell? w c hc
  have HC := Lib.hid hc
  have HF := Lib.hid hf
  clear hc hf
  go_enter Try.func24, Try.ntmps24
  go_wp2_with fail
  go_loopw [8] (fun i wr => ∃ k : Nat, k ≤ 24 ∧ i = .int .i64 k ∧ Hid (Upd c (h || orB (gnB K y) k) w wr ∧ Blk wr w.heap.size 39 24 (gnF K y k) ∧ Blk wr (w.heap.size + 1) 39 24 (fun _ => 0))) (fun i _ => 24 - (intOf i).toNat)
  case atStart =>
    refine ⟨0, by omega, rfl, ?_, ?_, ?_⟩
    · rw [show (h || orB (gnB K y) 0) = h from by simp [orB]]
      exact Upd.then (Upd.refl HC.out) (by (repeat (first | with_reducible exact Below.refl _ _ | with_reducible apply Below.drew | (with_reducible refine below_drewN ?_ _) | (with_reducible refine Below.alloc ?_ (by (try simp) <;> omega) _) | (with_reducible refine Below.setCell ?_ (by (try simp) <;> omega) _))))
    · rw [show gnF K y 0 = K from by funext i; simp [gnF]]; exact (Blk.new w _ _ _).alloc _
    · rw [zrow]; exact Blk.new1 w _ _ _ _
  case round =>
    obtain ⟨k, hk, rfl, R⟩ := hrel
    by_cases hlt : k < 24
    · have d1 : decide ((k : Int) < 24) = true := by simp; omega
      have b0 := R.out.2.1.cell (i := k) (by omega)
      rw [show gnF K y k k = K k from by simp [gnF]] at b0
      have rc := R.out.1.cellc HC.out
      have rf := (R.out.1.frozen hcb).trans HF.out
      have CC := Lib.hid (fmul_any c _ (K k) y 30 _ rc rf)
      clear rc rf
      go_wp2_with (go_at_call 48; refine CC.out.mono ?_; rintro e w' ⟨rfl, u⟩; have HU2 := Lib.hid (R.out.1.trans u); have S2 := R.out.2.1.upd u (by have := hcb; omega); have HR2 := Lib.hid (R.out.2.2.upd u (by have := hcb; omega)); have c0 := S2.cell (i := k) (by omega); have c1 := S2.free k; have HS2 := Lib.hid S2; clear u S2)
      go_roundw
      case rel =>
        refine ⟨k + 1, by omega, by go_num, ?_, ?_, HR2.out.other (by simp) _⟩
        · rw [show (h || orB (gnB K y) (k + 1)) = (h || orB (gnB K y) k || mulH (K k) y 30) from by simp [orB, gnB, Bool.or_assoc]]
          exact HU2.out.setCell (by simp) _
        · refine (HS2.out.set _ _).congr fun i hi => ?_
          simp only [Go.Proofs.Ytpbgglkopfjagaa.upd, gnF]
          by_cases h1 : i = k
          · subst h1; rw [if_pos rfl, if_pos (by omega)]
          · rw [if_neg h1]; split <;> split <;> first | rfl | omega
      case measure => simp [intOf]; omega
    · have hk24 : k = 24 := by omega
      subst hk24
      have B0 := R.out.2.1
      have B1 := R.out.2.2
      have HB := Lib.hid R.out.1
      clear R hlt hk
      go_wp2_with (first | (refine wpList_load_row rfl 39 _ rfl w.heap.size rfl 39 _ (0, 0) _ B0 Try.underlying39 rfl (irow.trans (by rw [arrv_size])) ?_) | (refine wpList_store_row rfl 39 _ _ rfl (w.heap.size + 1) _ rfl rfl 39 _ B1 (irow.trans (by rw [arrv_size])) (by rw [arrv_size, arrv_size]) (oneCell_arrv _ _) ?_))
      refine bodyPost_ret (results_cell_row Try.results24 _ _ (w.heap.size + 1) 39 (arrv 24 (gnF K y 24)) (0, 0) _ rfl (setRow_heap _ _ _ _ _ _ B1) Try.underlying39 rfl (irow.trans (by rw [arrv_size]))) rfl ⟨rfl, ?_⟩
      exact HB.out.then' (below_row (Below.refl _ _) (by first | omega | simp) _)
end Go.Proofs.Ytpbgglkopfjagaa
/- append of one number of int64 to a slice of the call's own. -/
namespace Go.Proofs.Ytpbgglkopfjagaa
open Go.RowKit
open Go
theorem info_i64 : (Try.prog.info? 2).map (fun i => (i.zero, i.size, i.bytes)) = some (some (.int .i64 0), 1, 8) := by kernel_rfl
theorem info_i64' : ∃ i, Try.prog.info? 2 = some i ∧ i.zero = some (.int .i64 0) ∧ i.size = 1 ∧ i.bytes = 8 := by
  have h := info_i64
  cases e : Try.prog.info? 2 with
  | none => rw [e] at h; cases h
  | some i => rw [e] at h; simp at h; exact ⟨i, rfl, h.1, h.2.1, h.2.2⟩
theorem own_snoc {n : Nat} {L : Nat → Int} {x : Int} : ints n L ++ [.int .i64 x] = ints (n + 1) (upd L n x) := by
  rw [ints_succ]
  congr 1
  · exact ints_congr fun i hi => by simp [upd, show ¬ i = n by omega]
  · simp [upd]
theorem run_app1 {w : World} (B : Nat) {v : Value} {n : Nat} {L : Nat → Int} (hown : Own w B 2 v n L) (nb c : Nat) (x : Int) (hx : w.cell? ⟨nb, 0, none⟩ = some (.int .i64 x)) (hn : n ≤ 1000000) (hB : B ≤ w.heap.size) (ty : TypeId) (H : Nat) (hH : w.heap.size = H) :
    ∃ g cap w', (Builtin.append_ #[77, 77] ty #[v, .slice (some ⟨nb, 0, none⟩) 1 c]).run Try.prog w = .ok (.slice (some ⟨g, 0, none⟩) (n + 1) cap) w' ∧
      Own w' B 2 (.slice (some ⟨g, 0, none⟩) (n + 1) cap) (n + 1) (upd L n x) ∧ w.grownBy w' v.ownBlock ∧ (v.ownBlock = some g ∨ g = H) ∧ g < w'.heap.size := by
  obtain ⟨i, hi, hz, hs, hb⟩ := info_i64'
  obtain ⟨g, cap, w', h1, h2, h3, h4, h5⟩ := run_append_lies (P := Try.prog) w 77 ty B 2 i (.int .i64 0) 1 8 Try.underlying77 hi hz hs hb rfl (by decide) v n (ints n L) hown ⟨nb, 0, none⟩ 1 c [.int .i64 x] rfl
    (fun j u hu => by
      have hj : j = 0 := by
        have := List.getElem?_eq_some_iff.1 hu
        obtain ⟨h, _⟩ := this
        simpa using h
      subst hj
      simp at hu
      subst hu
      simpa [Addr.add] using hx) (fun u hu => by rw [List.mem_singleton] at hu; subst hu; rfl) (by decide) (by unfold maxLen; omega) (by omega) hB H hH
  exact ⟨g, cap, w', h1, by unfold Own; rw [← own_snoc]; exact h2, h3, h4, h5⟩
theorem wp_app1 {w : World} {o : Oper} {a : Act} {K : Act → World → Prop} {Q : Exit → Act → World → Prop} (s x : Operand)
    (ho : o.op = .call { callee := .builtin .append, args := #[s, x], argTypes := #[77, 77] })
    (B : Nat) {v : Value} {n : Nat} {L : Nat → Int} (hs : a.eval s = v) (hown : Own w B 2 v n L) (nb c : Nat) (y : Int) (hx : a.eval x = .slice (some ⟨nb, 0, none⟩) 1 c) (hy : w.cell? ⟨nb, 0, none⟩ = some (.int .i64 y)) (hn : n ≤ 1000000) (hB : B ≤ w.heap.size) (H : Nat) (hH : w.heap.size = H)
    (h : ∀ g cap w', Own w' B 2 (.slice (some ⟨g, 0, none⟩) (n + 1) cap) (n + 1) (upd L n y) → w.grownBy w' v.ownBlock → (v.ownBlock = some g ∨ g = H) → g < w'.heap.size → K (a.put o.dst (.slice (some ⟨g, 0, none⟩) (n + 1) cap)) w') : o.wp Try.prog a w K Q := by
  obtain ⟨g, cap, w', hr, h2, h3, h4, h5⟩ := run_app1 B hown nb c y hy hn hB o.type H hH
  unfold Oper.wp execOp
  simp only [ho, resolve, invoke, builtin, Sem.run_bind, Sem.run_pure, Result.andThen_ok, List.map_toArray, List.map_cons, List.map_nil, hs, hx, hr]
  exact h g cap w' h2 h3 h4 h5
theorem wpList_app1 {w : World} {ops : Array Oper} {rest : List Oper} {o : Oper} {a : Act} {Q : Exit → Act → World → Prop} (hgd : o.guard = none) (s x : Operand)
    (ho : o.op = .call { callee := .builtin .append, args := #[s, x], argTypes := #[77, 77] })
    (B : Nat) {v : Value} {n : Nat} {L : Nat → Int} (hs : a.eval s = v) (hown : Own w B 2 v n L) (nb c : Nat) (y : Int) (hx : a.eval x = .slice (some ⟨nb, 0, none⟩) 1 c) (hy : w.cell? ⟨nb, 0, none⟩ = some (.int .i64 y)) (hn : n ≤ 1000000) (hB : B ≤ w.heap.size) (H : Nat) (hH : w.heap.size = H)
    (h : ∀ g cap w', Own w' B 2 (.slice (some ⟨g, 0, none⟩) (n + 1) cap) (n + 1) (upd L n y) → w.grownBy w' v.ownBlock → (v.ownBlock = some g ∨ g = H) → g < w'.heap.size → wpList Try.prog ops Q rest (a.put o.dst (.slice (some ⟨g, 0, none⟩) (n + 1) cap)) w') : wpList Try.prog ops Q (o :: rest) a w :=
  wpList_plain hgd fun _ hK => wp_app1 s x ho B hs hown nb c y hx hy hn hB H hH fun g cap w' h2 h3 h4 h5 => hK _ _ (h g cap w' h2 h3 h4 h5)
end Go.Proofs.Ytpbgglkopfjagaa
/- thornton.Step with One, of variances alone: the noises are added, and nothing else. No program. -/
namespace Go.Proofs.Ytpbgglkopfjagaa
theorem orB_no {p : Nat → Bool} : ∀ {n : Nat}, (∀ i, i < n → p i = false) → orB p n = false
  | 0, _ => rfl
  | n + 1, h => by simp only [orB]; rw [orB_no fun i hi => h i (by omega), h n (by omega)]; rfl
theorem satV_0 : satV 0 = 0 := by decide
theorem satH_0 : satH 0 = false := by decide
theorem satV_one : satV 1073741824 = 1073741824 := by decide
theorem satH_one : satH 1073741824 = false := by decide
theorem rsh_mul (e : Int) : rsh (1073741824 * e) 30 = e := by
  have h2 : ((2 : Int) ^ 30) = 1073741824 := by decide
  unfold rsh rdiv
  rw [h2]
  have : (1073741824 * e).natAbs = 1073741824 * e.natAbs := by rw [Int.natAbs_mul]; rfl
  rw [this, show (1073741824 : Int).natAbs = 1073741824 from rfl]
  have e1 : (2 * (1073741824 * e.natAbs) + 1073741824) / (2 * 1073741824) = e.natAbs := by omega
  rw [e1]
  by_cases he : 0 ≤ e
  · rw [if_pos (by simp; omega)]; omega
  · rw [if_neg (by simp; omega)]; omega
theorem rsh_0 : rsh 0 30 = 0 := by decide
theorem mulV_one {e : Int} (h1 : -1152921504606846976 ≤ e) (h2 : e ≤ 1152921504606846976) : mulV 1073741824 e 30 = e := by
  unfold mulV
  rw [if_neg (by decide), satV_one, satV_id h1 h2, show (30 : Int).toNat = 30 from rfl, rsh_mul, satV_id h1 h2]
theorem mulH_one {e : Int} (h1 : -1152921504606846976 ≤ e) (h2 : e ≤ 1152921504606846976) : mulH 1073741824 e 30 = false := by
  unfold mulH
  rw [satV_one, satV_id h1 h2, show (30 : Int).toNat = 30 from rfl, rsh_mul, satH_one, satH_no h1 h2]; rfl
theorem rdiv_0 {d : Int} (h : d ≠ 0) : rdiv 0 d = 0 := by
  unfold rdiv
  have : (2 * (0 : Int).natAbs + d.natAbs) / (2 * d.natAbs) = 0 := Nat.div_eq_of_lt (by have := Int.natAbs_pos.2 h; simp; omega)
  rw [this]
  split <;> rfl
/-- A product taken out of a sum of products. -/
theorem dotS_out (A B : Nat → Int) (a : Nat) : ∀ n, a < n → dotS A B n = dotS (upd A a 0) B n + satV (A a) * satV (B a)
  | 0, h => by omega
  | n + 1, h => by
    simp only [dotS]
    by_cases ha : a = n
    · subst ha
      have e : ∀ m, m ≤ a → dotS (upd A a 0) B m = dotS A B m := by
        intro m
        induction m with
        | zero => intro _; rfl
        | succ m ih => intro hm; simp only [dotS]; rw [ih (by omega)]; simp only [upd]; rw [if_neg (by omega)]
      rw [e a (Nat.le_refl _)]
      simp only [upd, if_pos, satV_0, Int.zero_mul]
      omega
    · rw [dotS_out A B a n (by omega)]
      simp only [upd]
      rw [if_neg (by omega : ¬ n = a)]
      omega
theorem dotS_no {A B : Nat → Int} : ∀ {n : Nat}, (∀ i, i < n → A i = 0 ∨ B i = 0) → dotS A B n = 0
  | 0, _ => rfl
  | n + 1, h => by
    simp only [dotS]
    rw [dotS_no fun i hi => h i (by omega)]
    rcases h n (by omega) with e | e <;> rw [e, satV_0] <;> simp
theorem dotS_congr {A B A' B' : Nat → Int} : ∀ {n : Nat}, (∀ i, i < n → A i = A' i ∧ B i = B' i) → dotS A B n = dotS A' B' n
  | 0, _ => rfl
  | n + 1, h => by
    simp only [dotS]
    rw [dotS_congr fun i hi => h i (by omega), (h n (by omega)).1, (h n (by omega)).2]
theorem dotB_no {A B : Nat → Int} : ∀ {n : Nat}, (∀ i, i < n → satH (A i) = false ∧ satH (B i) = false) → dotB A B n = false
  | 0, _ => rfl
  | n + 1, h => by
    simp only [dotB]
    rw [dotB_no fun i hi => h i (by omega), (h n (by omega)).1, (h n (by omega)).2]; rfl
/-- Of the products but one at a. -/
theorem dotS_1 {A B : Nat → Int} {n a : Nat} (ha : a < n) (h : ∀ i, i < n → i ≠ a → A i = 0 ∨ B i = 0) : dotS A B n = satV (A a) * satV (B a) := by
  rw [dotS_out A B a n ha, dotS_no, Int.zero_add]
  intro i hi
  by_cases e : i = a
  · left; simp [upd, e]
  · rcases h i hi e with h | h
    · left; simp [upd, e, h]
    · right; exact h
/-- The rows that are orthogonal from the start. -/
def idW (x : Nat) : Int := if x % 48 = x / 48 ∨ x % 48 = 24 + x / 48 then 1073741824 else 0
theorem tri_le {j : Nat} (hj : j < 24) : j * (j - 1) / 2 + j ≤ 276 := by
  have : ∀ j : Fin 24, j.val * (j.val - 1) / 2 + j.val ≤ 276 := by decide
  exact this ⟨j, hj⟩
section
variable {W e : Nat → Int} (hW : ∀ x, x < 1152 → W x = idW x) (he : ∀ k, k < 48 → 0 ≤ e k ∧ e k ≤ 72057594037927936)
include hW he
variable (hs : ∀ j, j < 24 → 1 ≤ e j + e (24 + j) ∧ e j + e (24 + j) ≤ 72057594037927936)
include hs
end
/-- A covariance of variances alone. -/
def DiagF (f : Nat → Int) : Prop := (∀ x, x < 276 → f x = 0) ∧ ∀ i, i < 24 → 1 ≤ f (276 + i) ∧ f (276 + i) ≤ 72057594037927936
theorem varV_id {a : Int} (h : 1 ≤ a) (h' : a ≤ 72057594037927936) : varV a = a ∧ varH a = false := by
  constructor
  · unfold varV clampV; rw [if_neg (by omega), if_neg (by omega), if_neg (by omega)]
  · unfold varH clampH; simp; omega
theorem cond_diag {f : Nat → Int} (h : DiagF f) : (∀ x, x < 300 → condF f x = f x) ∧ condH f = false := by
  constructor
  · intro x hx
    unfold condF
    split
    · rename_i h1; rw [h.1 x h1, satV_0]
    · have := h.2 (x - 276) (by omega)
      rw [show 276 + (x - 276) = x by omega] at this
      exact (varV_id this.1 this.2).1
  · unfold condH
    rw [orB_no, orB_no]; rfl
    · intro i hi; rw [h.1 i hi, satH_0]
    · intro i hi; exact (varV_id (h.2 i hi).1 (h.2 i hi).2).2
theorem colF_diag {f : Nat → Int} (h : ∀ x, x < 276 → f x = 0) {k m : Nat} (hk : k < 24) : colF f k m = if m = k then 1073741824 else 0 := by
  unfold colF uV
  have ht := tri_le hk
  by_cases e : m = k
  · rw [if_pos (by omega), if_pos e, if_pos e]
  · rw [if_neg e, if_neg e]
    split
    · rw [if_pos (by omega)]
      exact h _ (by unfold pl; omega)
    · rfl
end Go.Proofs.Ytpbgglkopfjagaa
/- bierman's plain laws: a row of noughts, turned signs, what is learnt is good. No program. -/
namespace Go.Proofs.Ytpbgglkopfjagaa
theorem orB_congr {p q : Nat → Bool} : ∀ {n : Nat}, (∀ i, i < n → p i = q i) → orB p n = orB q n
  | 0, _ => rfl
  | n + 1, h => by simp only [orB]; rw [orB_congr fun i hi => h i (by omega), h n (by omega)]
theorem condF_U {f : Nat → Int} {x : Nat} (h : x < 276) : -1152921504606846976 ≤ condF f x ∧ condF f x ≤ 1152921504606846976 := by
  unfold condF; rw [if_pos h]; exact satV_bd _
theorem addV_0l {a : Int} (h1 : -1152921504606846976 ≤ a) (h2 : a ≤ 1152921504606846976) : addV a 0 = a ∧ addH a 0 = false := by
  unfold addV addH
  rw [satV_0, Int.add_zero, satV_id h1 h2, satV_id h1 h2, satH_no h1 h2, satH_0]; exact ⟨rfl, rfl⟩
theorem mulV_z (e : Int) (s : Int) : mulV 0 e s = 0 := by
  unfold mulV
  split
  · rfl
  · rw [satV_0, Int.zero_mul]
    have : rsh 0 s.toNat = 0 := by
      unfold rsh; exact rdiv_0 (Int.ne_of_gt (Int.pow_pos (by decide)))
    rw [this, satV_0]
theorem mulV_comm (a b s : Int) : mulV a b s = mulV b a s := by unfold mulV; rw [Int.mul_comm]
theorem divV_z {b : Int} (hb : satV b ≠ 0) (s : Int) : divV 0 b s = 0 := by
  unfold divV byV
  rw [if_neg hb]
  split
  · rfl
  · rw [satV_0, Int.zero_mul, rdiv_0 hb, satV_0]
theorem rdiv_self_mul {d a : Int} (ha : 0 < a) : rdiv (d * a) a = d := by
  unfold rdiv
  have e : (d * a).natAbs = d.natAbs * a.natAbs := Int.natAbs_mul ..
  have hp : 0 < a.natAbs := by omega
  have e1 : (2 * (d * a).natAbs + a.natAbs) / (2 * a.natAbs) = d.natAbs := by
    rw [e, ← Nat.mul_assoc]
    rw [show 2 * d.natAbs * a.natAbs = d.natAbs * (2 * a.natAbs) by rw [Nat.mul_comm 2, Nat.mul_assoc], Nat.mul_comm d.natAbs]
    rw [Nat.mul_add_div (by omega)]
    rw [Nat.div_eq_of_lt (by omega)]; omega
  rw [e1]
  by_cases hd : 0 ≤ d
  · rw [if_pos (by simp [ha, Int.mul_nonneg hd (Int.le_of_lt ha)])]; omega
  · have : d * a < 0 := Int.mul_neg_of_neg_of_pos (by omega) ha
    rw [if_neg (by simp [ha]; omega)]; omega
section
variable {p : Nat → Int} (hU : ∀ x, x < 276 → -1152921504606846976 ≤ p x ∧ p x ≤ 1152921504606846976) (hD : ∀ i, i < 24 → 1 ≤ p (276 + i) ∧ p (276 + i) ≤ 72057594037927936) {r : Int} (hr : 1 ≤ r ∧ r ≤ 72057594037927936)
include hr in
include hr in
include hD hr in
include hU in
include hU hD hr in
include hU hD hr in
end
theorem rdiv_neg1 (a d : Int) : rdiv (-a) d = -rdiv a d := by
  by_cases ha : a = 0
  · subst ha
    by_cases hd : d = 0
    · subst hd; decide
    · rw [Int.neg_zero, rdiv_0 hd]; rfl
  · unfold rdiv
    rw [Int.natAbs_neg]
    generalize (((2 * a.natAbs + d.natAbs) / (2 * d.natAbs) : Nat) : Int) = q
    by_cases h1 : 0 < d
    · by_cases h2 : 0 ≤ a
      · rw [if_neg (by simp [h1]; omega), if_pos (by simp [h1]; omega)]
      · rw [if_pos (by simp [h1]; omega), if_neg (by simp [h1]; omega)]; omega
    · by_cases h2 : 0 ≤ a
      · rw [if_pos (by simp [h1]; omega), if_neg (by simp [h1]; omega)]; omega
      · rw [if_neg (by simp [h1]; omega), if_pos (by simp [h1]; omega)]
theorem mulH_comm (a b s : Int) : mulH a b s = mulH b a s := by
  unfold mulH; rw [Int.mul_comm, Bool.or_comm (satH a)]
section
variable (p h : Nat → Int) (r : Int)
end
/-- What is learnt is good, and no D is greater. -/
theorem rdiv_le {x d m : Int} (hd : 0 < d) (h : x ≤ m * d) (hm : 0 ≤ m) : rdiv x d ≤ m := by
  unfold rdiv
  by_cases hx : 0 ≤ x
  · rw [if_pos (by simp [hx, hd])]
    have : (2 * x.natAbs + d.natAbs) / (2 * d.natAbs) < m.natAbs + 1 := by
      apply Nat.div_lt_of_lt_mul
      have e : (x.natAbs : Int) ≤ (m.natAbs * d.natAbs : Nat) := by rw [Int.natCast_mul, Int.natAbs_of_nonneg hm, Int.natAbs_of_nonneg (Int.le_of_lt hd), Int.natAbs_of_nonneg hx]; exact h
      have e2 : x.natAbs ≤ m.natAbs * d.natAbs := by omega
      have e3 : 2 * d.natAbs * (m.natAbs + 1) = 2 * (m.natAbs * d.natAbs) + 2 * d.natAbs := by
        rw [Nat.mul_add, Nat.mul_one, Nat.mul_assoc, Nat.mul_comm d.natAbs]
      have : 0 < d.natAbs := by omega
      rw [e3]
      generalize m.natAbs * d.natAbs = k at *
      omega
    omega
  · rw [if_neg (by simp [hx, hd])]
    have : (0 : Int) ≤ (((2 * x.natAbs + d.natAbs) / (2 * d.natAbs) : Nat) : Int) := Int.natCast_nonneg _
    omega
theorem rdiv_nonneg {x d : Int} (hx : 0 ≤ x) (hd : 0 < d) : 0 ≤ rdiv x d := by
  unfold rdiv
  rw [if_pos (by simp [hx, hd])]; exact Int.natCast_nonneg _
section
variable {p h : Nat → Int} {r : Int} (hD : ∀ i, i < 24 → 1 ≤ p (276 + i) ∧ p (276 + i) ≤ 72057594037927936) (hr : 1 ≤ r ∧ r ≤ 72057594037927936)
include hD
include hr
end
theorem upOm_at {O p h : Nat → Int} {r : Int} {j : Nat} (hj : j < 24) : ∀ m, m ≤ j → (∀ i, i < 24 → i ≠ j → upOm O p h r j m (276 + i) = O (276 + i)) ∧ upOm O p h r j m (276 + j) = upD p h r j ∧
    ∀ x, x < 276 → (-1152921504606846976 ≤ O x ∧ O x ≤ 1152921504606846976) → -1152921504606846976 ≤ upOm O p h r j m x ∧ upOm O p h r j m x ≤ 1152921504606846976
  | 0, _ => by
    refine ⟨fun i hi hne => ?_, ?_, fun x hx hO => ?_⟩
    · simp only [upOm, upd]; rw [if_neg (by omega)]
    · simp only [upOm, upd, if_true]
    · simp only [upOm, upd]; rw [if_neg (by omega)]; exact hO
  | m + 1, hm => by
    obtain ⟨h1, h2, h3⟩ := upOm_at (O := O) (p := p) (h := h) (r := r) hj m (by omega)
    have hp := pl_lt (i := m) (j := j) (by omega) hj
    refine ⟨fun i hi hne => ?_, ?_, fun x hx hO => ?_⟩
    · simp only [upOm, upd]; rw [if_neg (by omega)]; exact h1 i hi hne
    · simp only [upOm, upd]; rw [if_neg (by omega)]; exact h2
    · simp only [upOm, upd]; split
      · unfold upU addV; exact satV_bd _
      · exact h3 x hx hO
theorem upO_at {p h : Nat → Int} {r : Int} (hU : ∀ x, x < 276 → -1152921504606846976 ≤ p x ∧ p x ≤ 1152921504606846976) : ∀ j, j ≤ 24 →
    (∀ i, i < 24 → upO p h r j (276 + i) = if i < j then upD p h r i else p (276 + i)) ∧ ∀ x, x < 276 → -1152921504606846976 ≤ upO p h r j x ∧ upO p h r j x ≤ 1152921504606846976
  | 0, _ => ⟨fun i _ => by rw [if_neg (by omega)]; rfl, hU⟩
  | j + 1, hj => by
    obtain ⟨h1, h2⟩ := upO_at (p := p) (h := h) (r := r) hU j (by omega)
    obtain ⟨g1, g2, g3⟩ := upOm_at (O := upO p h r j) (p := p) (h := h) (r := r) (show j < 24 by omega) j (Nat.le_refl _)
    refine ⟨fun i hi => ?_, fun x hx => by simp only [upO]; exact g3 x hx (h2 x hx)⟩
    simp only [upO]
    by_cases e : i = j
    · subst e; rw [g2, if_pos (by omega)]
    · rw [g1 i hi e, h1 i hi]
      split <;> split <;> first | rfl | omega
end Go.Proofs.Ytpbgglkopfjagaa
