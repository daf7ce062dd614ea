/- Contracts of the program's functions and plain laws, part 10: they hold for all arguments. -/
import Derived.Test.YtgfklheepkgedaaGreatQ09
import Derived.Test.YtgfklheepkgedaaGreatQ04
/- Sums of nothing: fx.Add and vec.Add without numbers. -/
namespace Go.Proofs.YtgfklheepkgedaaGreat
open Go.RowKit
set_option maxRecDepth 100000
set_option maxHeartbeats 2000000 in
theorem fadd0_any (c : Addr) (h : Bool) (w : World) (hc : w.cell? c = some (.bool h)) (hf : w.frozen? c = false) :
    Calls Tryz.prog 75 #[.pointer (some c), .slice none 0 0] w fun e w' => e = .returned (.int .i64 0) ∧ Upd c h w w' := by
  have hcb := World.block_lt_of_cell? w c hc
  have HC := Lib.hid hc
  have HF := Lib.hid hf
  clear hc hf
  go_enter Tryz.func75, Tryz.ntmps75
  go_wp2_with fail
  go_loopw [12] (fun i wr => i = .int .i64 0 ∧ Hid (AddR c h (fun _ => 0) w 0 wr)) (fun i _ => 0)
  case atStart =>
    refine ⟨rfl, ⟨?_, by simp [sumS, hi64], by simp [sumS, lo64], by simp, by simp, by simp⟩⟩
    rw [show (h || sumB (fun _ => 0) 0) = h from by simp [sumB]]
    exact Upd.then (Upd.refl HC.out) (by (repeat (first | with_reducible exact Below.refl _ _ | with_reducible apply Below.drew | (with_reducible refine below_drewN ?_ _) | (with_reducible refine Below.alloc ?_ (by (try simp) <;> omega) _) | (with_reducible refine Below.setCell ?_ (by (try simp) <;> omega) _))))
  case round =>
    obtain ⟨rfl, R⟩ := hrel
    have u := R.out.upd
    have rc : wr.cell? c = some (.bool (h || sumB (fun _ => 0) 0)) := u.cellc HC.out
    have rf : wr.frozen? c = false := (u.frozen hcb).trans HF.out
    have s0 := R.out.c0
    have s1 := R.out.c1
    have RSZ := R.out.sz
    have HU := Lib.hid u
    rw [show (h || sumB (fun _ => 0) 0) = h from by simp [sumB]] at rc
    rw [show sumS (fun _ => 0) 0 = 0 from rfl] at s0 s1
    clear u
    go_wp2_with fail
    refine (round_any 0 0 _ (by decide) (by decide) (by omega) (by omega)).mono ?_; rintro e w5 ⟨rfl, hb5⟩
    have rc5 : w5.cell? c = some (.bool h) := (hb5.cell (World.block_lt_of_cell? _ _ rc)).trans rc
    have rf5 : w5.frozen? c = false := (hb5.frozen (World.block_lt_of_cell? _ _ rc)).trans rf
    have s5 : w5.cell? ⟨w.heap.size, 0, none⟩ = some (.int .i64 (hi64 0)) := (hb5.cell RSZ).trans s0
    have H5 := Lib.hid hb5
    clear hb5 rc rf s0 s1
    go_wp2_with fail
    refine (end_any c _ (rsh 0 0) _ _ rc5 rf5 (fun hn => by rw [hi_neg]; exact rsh_neg _ _ hn)).mono ?_; rintro e w6 ⟨rfl, rfl⟩
    go_wp2_with fail
    go_ret
    rw [rsh_zero]
    refine ⟨congrArg (fun x => Go.Ending.returned (Go.Value.int .i64 x)) (show satV 0 = 0 by decide), ?_⟩
    have E : (h || satH 0) = h := by rw [show satH 0 = false by decide, Bool.or_false]
    rw [E]
    have U := HU.out
    rw [show (h || sumB (fun _ => 0) 0) = h from by simp [sumB]] at U
    exact U.trans (Upd.after H5.out (Upd.set c _ _))
/-- The blocks of vec.Add of nothing. -/
structure VzR (c : Addr) (h : Bool) (w wr : World) : Prop where
  upd : Upd c h w wr
  r : Blk wr w.heap.size 28 3 (fun _ => 0)
  ou : Blk wr (w.heap.size + 1) 28 3 (fun _ => 0)
theorem upd0 (i : Nat) : ∀ j, Go.Proofs.YtgfklheepkgedaaGreat.upd (fun _ => (0 : Int)) i 0 j = 0 := fun j => by unfold Go.Proofs.YtgfklheepkgedaaGreat.upd; split <;> rfl
set_option maxHeartbeats 4000000 in
theorem vadd0_any (c : Addr) (h : Bool) (w : World) (hc : w.cell? c = some (.bool h)) (hf : w.frozen? c = false) :
    Calls Tryz.prog 37 #[.pointer (some c), .slice none 0 0] w fun e w' => e = .returned (.agg (arrv 3 (fun _ => 0))) ∧ Upd c h w w' := by
  have hcb := World.block_lt_of_cell? w c hc
  have S0 : Hid (VzR c h w ((w.alloc (.cells #[.int .i64 0, .int .i64 0, .int .i64 0] 28)).alloc (.cells #[.int .i64 0, .int .i64 0, .int .i64 0] 28))) := Lib.hid (by
    rw [zv3]
    exact ⟨Upd.then (Upd.refl hc) (by (repeat (first | with_reducible exact Below.refl _ _ | with_reducible apply Below.drew | (with_reducible refine below_drewN ?_ _) | (with_reducible refine Below.alloc ?_ (by (try simp) <;> omega) _) | (with_reducible refine Below.setCell ?_ (by (try simp) <;> omega) _)))), (Blk.new w _ 3 _).alloc _, Blk.new1 w _ _ 3 _⟩)
  have HC := Lib.hid hc
  have HF := Lib.hid hf
  clear hc hf
  go_enter Tryz.func37, Tryz.ntmps37
  go_upto_region 2 with fail
  generalize (w.alloc (.cells #[.int .i64 0, .int .i64 0, .int .i64 0] 28)).alloc (.cells #[.int .i64 0, .int .i64 0, .int .i64 0] 28) = W0 at *
  go_wp2_with fail
  go_loopw [10] (fun i wr => ∃ k : Nat, k ≤ 3 ∧ i = .int .i64 k ∧ Hid (VzR c h w wr)) (fun i _ => 3 - (intOf i).toNat)
  case atStart => exact ⟨0, by omega, rfl, S0⟩
  case round =>
    obtain ⟨k, hk, rfl, R⟩ := hrel
    clear S0
    by_cases hlt : k < 3
    · have d1 : decide ((k : Int) < 3) = true := by simp; omega
      have k0 : (0 : Int) ≤ (k : Int) := Int.natCast_nonneg _
      have k1 : (k : Int) < 3 := by omega
      go_upto_region 6 with fail
      go_wp2_with fail
      go_loopw [7, 15] (fun u j wr => u = .slice none 0 0 ∧ j = .int .i64 0 ∧ Hid (VzR c h w wr)) (fun _ _ _ => 0)
      case atStart => exact ⟨rfl, rfl, R⟩
      case round =>
        obtain ⟨rfl, rfl, T⟩ := hrel
        clear R
        have FC := Lib.hid (fadd0_any c h wr (T.out.upd.cellc HC.out) ((T.out.upd.frozen hcb).trans HF.out))
        go_upto_region 11 with fail
        go_wp2_with (go_at_call 75; (refine FC.out.mono ?_); rintro e w4 ⟨rfl, hu4⟩; have V4 := Lib.hid (show VzR c h w w4 from ⟨T.out.upd.trans hu4, T.out.r.upd hu4 (by omega), T.out.ou.upd hu4 (by omega)⟩); clear hu4 FC T; have a0 := V4.out.ou.cell hlt; have a1 := V4.out.ou.free k)
        go_roundw
        case rel => exact ⟨k + 1, by omega, by go_num, Lib.hid ⟨V4.out.upd.setCell (by simp) _, V4.out.r.other (by simp) _, (V4.out.ou.set k 0).congr fun i _ => upd0 k i⟩⟩
        case measure => simp [intOf]; omega
    · have hk3 : k = 3 := by omega
      subst hk3
      have U := Lib.hid R.out.upd
      have B0 := R.out.ou
      have B1 := R.out.r
      obtain ⟨Z, hZ⟩ : ∃ Z : Nat → Int, (fun _ => (0 : Int)) = Z := ⟨_, rfl⟩
      rw [hZ] at B0
      have HZ := Lib.hid hZ
      clear R hZ
      rw [show ((3 : Nat) : Int) = 3 from rfl]
      go_wp2_with (first | (refine wpList_load_row rfl 28 _ rfl (w.heap.size + 1) rfl 28 _ (0, 0) _ (B0) Tryz.underlying28 rfl (iv3.trans (by rw [arrv_size])) ?_) | (refine wpList_store_row rfl 28 _ _ rfl (w.heap.size) _ rfl rfl 28 _ (B1) (iv3.trans (by rw [arrv_size])) (by rw [arrv_size, arrv_size]) (oneCell_arrv _ _) ?_))
      refine bodyPost_ret (results_cell_row Tryz.results37 _ _ w.heap.size 28 (arrv 3 Z) (0, 0) _ rfl (setRow_heap _ _ _ _ _ _ B1) Tryz.underlying28 rfl (iv3.trans (by rw [arrv_size]))) rfl ⟨by rw [HZ.out], ?_⟩
      exact U.out.then' (below_row (Below.refl _ _) (by omega) _)
end Go.Proofs.YtgfklheepkgedaaGreat
/- Contract of tri.Condition. -/
namespace Go.Proofs.YtgfklheepkgedaaGreat
open Go.RowKit
set_option maxRecDepth 100000
theorem variance_any (c : Addr) (h : Bool) (a : Int) (w : World) (hc : w.cell? c = some (.bool h)) (hf : w.frozen? c = false) :
    Calls Tryz.prog 39 #[.pointer (some c), .int .i64 a] w fun e w' => e = .returned (.int .i64 (clampV a 1 72057594037927936)) ∧ w.setCell c (.bool (h || clampH a 1 72057594037927936)) = w' := by
  go_enter Tryz.func39, Tryz.ntmps39
  go_wp2_with (go_at_call 72; refine (clamp_any c h a _ _ _ hc hf).mono ?_; rintro e w' ⟨rfl, rfl⟩)
  go_ret
  exact ⟨rfl, rfl⟩
/-- A covariance as 300 numbers: U's first, then D's. -/
def condF (f : Nat → Int) : Nat → Int := fun i => if i < 276 then satV (f i) else varV (f i)
def condH (f : Nat → Int) : Bool := orB (fun i => varH (f (276 + i))) 24 || orB (fun i => satH (f i)) 276
def condD (f : Nat → Int) (k : Nat) : Nat → Int := fun i => if 276 ≤ i ∧ i < 276 + k then varV (f i) else f i
def condU (f : Nat → Int) (k : Nat) : Nat → Int := fun i => if i < k then satV (f i) else if 276 ≤ i then varV (f i) else f i
structure CondR (c : Addr) (h : Bool) (g : Nat → Int) (w wr : World) : Prop where
  upd : Upd c h w wr
  blk : Blk wr w.heap.size 26 300 g
  res : Blk wr (w.heap.size + 1) 26 300 (fun _ => 0)
theorem zcov : Tryz.zeroCells26 = arrv 300 (fun _ => 0) := by kernel_rfl
theorem icov : (Tryz.prog.info? 26).map (·.size) = some 300 := by kernel_rfl
theorem cond_any (c : Addr) (h : Bool) (f : Nat → Int) (w : World) (hc : w.cell? c = some (.bool h)) (hf : w.frozen? c = false) :
    Calls Tryz.prog 88 #[.pointer (some c), .agg (arrv 300 f)] w fun e w' => e = .returned (.agg (arrv 300 (condF f))) ∧ Upd c (h || condH f) w w' := by
  have hcb := World.block_lt_of_cell? w c hc
  have HC := Lib.hid hc
  have HF := Lib.hid hf
  clear hc hf
  go_enter Tryz.func88, Tryz.ntmps88
  go_wp2_with fail
  go_loopw [7] (fun i wr => ∃ k : Nat, k ≤ 24 ∧ i = .int .i64 k ∧ Hid (CondR c (h || orB (fun i => varH (f (276 + i))) k) (condD f k) w wr)) (fun i _ => 24 - (intOf i).toNat)
  case atStart =>
    refine ⟨0, by omega, rfl, ⟨?_, ?_, ?_⟩⟩
    · rw [show (h || orB (fun i => varH (f (276 + i))) 0) = h from by simp [orB]]
      exact Upd.then (Upd.refl HC.out) (by (repeat (first | with_reducible exact Below.refl _ _ | with_reducible apply Below.drew | (with_reducible refine below_drewN ?_ _) | (with_reducible refine Below.alloc ?_ (by (try simp) <;> omega) _) | (with_reducible refine Below.setCell ?_ (by (try simp) <;> omega) _))))
    · exact (Blk.alloc (Blk.new w _ 300 f) _).congr fun i hi => by simp [condD]; omega
    · rw [zcov]; exact Blk.new1 w _ _ 300 _
  case round =>
    obtain ⟨k, hk, rfl, R⟩ := hrel
    by_cases hlt : k < 24
    · have rc := R.out.upd.cellc HC.out
      have rf := (R.out.upd.frozen hcb).trans HF.out
      have b0 := R.out.blk.cell (i := 276 + k) (by omega)
      have b1 := R.out.blk.free (276 + k)
      have n0 := ne_of_cells rc b0
      have hv : condD f k (276 + k) = f (276 + k) := by simp [condD]
      rw [hv] at b0
      clear hv
      go_wp2_with (go_at_call 39; refine (variance_any c _ _ _ rc rf).mono ?_; rintro e w' ⟨rfl, rfl⟩)
      go_roundw
      case rel =>
        refine ⟨k + 1, by omega, by go_num, ⟨?_, ?_, ?_⟩⟩
        · rw [show (h || orB (fun i => varH (f (276 + i))) (k + 1)) = (h || orB (fun i => varH (f (276 + i))) k || clampH (f (276 + k)) 1 72057594037927936) from by simp [orB, varH, Bool.or_assoc]]
          exact (R.out.upd.trans (Upd.set c _ _)).setCell (Nat.le_refl _) _
        · refine ((R.out.blk.other (R.out.blk.flag rc) _).set _ _).congr fun i hi => ?_
          simp only [Go.Proofs.YtgfklheepkgedaaGreat.upd, condD, varV]
          by_cases h1 : i = 276 + k
          · subst h1; simp
          · rw [if_neg h1]; split <;> split <;> first | rfl | omega
        · exact (R.out.res.other (R.out.res.flag rc) _).other (by simp) _
      case measure => simp [intOf]; omega
    · have hk24 : k = 24 := by omega
      subst hk24
      have HR := R
      clear R hlt hk
      rw [show ((24 : Nat) : Int) = 24 from rfl]
      go_wp2_with fail
      go_loopw [20] (fun i wr => ∃ k : Nat, k ≤ 276 ∧ i = .int .i64 k ∧ Hid (CondR c (h || orB (fun i => varH (f (276 + i))) 24 || orB (fun i => satH (f i)) k) (condU f k) w wr)) (fun i _ => 276 - (intOf i).toNat)
      case atStart =>
        refine ⟨0, by omega, rfl, ⟨?_, HR.out.blk.congr fun i hi => by simp [condD, condU]; split <;> split <;> first | rfl | omega, HR.out.res⟩⟩
        rw [show (h || orB (fun i => varH (f (276 + i))) 24 || orB (fun i => satH (f i)) 0) = (h || orB (fun i => varH (f (276 + i))) 24) from by simp [orB]]
        exact HR.out.upd
      case round =>
        obtain ⟨k, hk, rfl, R⟩ := hrel
        by_cases hlt : k < 276
        · have rc := R.out.upd.cellc HC.out
          have rf := (R.out.upd.frozen hcb).trans HF.out
          have b0 := R.out.blk.cell (i := k) (by omega)
          have b1 := R.out.blk.free k
          have n0 := ne_of_cells rc b0
          have hv : condU f k k = f k := by simp [condU]; omega
          rw [hv] at b0
          clear hv
          go_wp2_with (go_at_call 72; refine (clamp_any c _ _ _ _ _ rc rf).mono ?_; rintro e w' ⟨rfl, rfl⟩)
          go_roundw
          case rel =>
            refine ⟨k + 1, by omega, by go_num, ⟨?_, ?_, ?_⟩⟩
            · rw [show (h || orB (fun i => varH (f (276 + i))) 24 || orB (fun i => satH (f i)) (k + 1)) = (h || orB (fun i => varH (f (276 + i))) 24 || orB (fun i => satH (f i)) k || clampH (f k) (-1152921504606846976) 1152921504606846976) from by simp [orB, satH, Bool.or_assoc]]
              exact (R.out.upd.trans (Upd.set c _ _)).setCell (Nat.le_refl _) _
            · refine ((R.out.blk.other (R.out.blk.flag rc) _).set _ _).congr fun i hi => ?_
              simp only [Go.Proofs.YtgfklheepkgedaaGreat.upd, condU, satV]
              by_cases h1 : i = k
              · subst h1; simp
              · rw [if_neg h1]; repeat' split
                all_goals first | rfl | omega
            · exact (R.out.res.other (R.out.res.flag rc) _).other (by simp) _
          case measure => simp [intOf]; omega
        · have hk276 : k = 276 := by omega
          subst hk276
          have B0 := R.out.blk
          have B1 := R.out.res
          have U := Lib.hid R.out.upd
          have hl := B1.lt
          clear R hlt hk HR
          go_wp2_with (first | (refine wpList_load_row rfl 26 _ rfl w.heap.size rfl 26 _ (0, 0) _ B0 Tryz.underlying26 rfl (icov.trans (by rw [arrv_size])) ?_) | (refine wpList_store_row rfl 26 _ _ rfl (w.heap.size + 1) _ rfl rfl 26 _ B1 (icov.trans (by rw [arrv_size])) (by rw [arrv_size, arrv_size]) (oneCell_arrv _ _) ?_))
          refine bodyPost_ret (results_cell_row Tryz.results88 _ _ (w.heap.size + 1) 26 (arrv 300 (condU f 276)) (0, 0) _ rfl (setRow_heap _ _ _ _ _ _ B1) Tryz.underlying26 rfl (icov.trans (by rw [arrv_size]))) rfl ⟨?_, ?_⟩
          · rw [arrv_congr (g := condF f) fun i hi => ?_]
            simp only [condU, condF]
            by_cases h1 : i < 276
            · simp [h1]
            · rw [if_neg h1, if_neg h1, if_pos (by omega)]
          · rw [show (h || condH f) = (h || orB (fun i => varH (f (276 + i))) 24 || orB (fun i => satH (f i)) 276) from by simp [condH, Bool.or_assoc]]
            exact U.out.then' (below_row (Below.refl _ _) (by omega) _)
end Go.Proofs.YtgfklheepkgedaaGreat
/- Contracts of package tri (2): Good, place, U, Set. -/
namespace Go.Proofs.YtgfklheepkgedaaGreat
open Go.RowKit
set_option maxRecDepth 100000
theorem pl_lt {i j : Nat} (h : i < j) (hj : j < 24) : pl i j < 276 := by
  unfold pl
  have : j * (j - 1) ≤ 23 * 22 := Nat.mul_le_mul (by omega) (by omega)
  omega
theorem pl_cast (i j : Nat) : ((pl i j : Nat) : Int) = (j : Int) * ((j - 1 : Nat) : Int) / 2 + (i : Int) := by
  unfold pl
  rw [← Int.natCast_mul]
  omega
theorem place_any (i j : Nat) (w : World) (_hi : i < 24) (hj : j < 24) :
    Calls Tryz.prog 118 #[.int .i64 i, .int .i64 j] w fun e w' => e = .returned (.tuple #[.int .i64 (pl i j : Nat), .bool (decide (i < j))]) ∧ w = w' := by
  have hmul : (j : Int) * ((j : Int) - 1) = ((j * (j - 1) : Nat) : Int) := by
    cases j with
    | zero => simp
    | succ n => rw [Int.natCast_mul, show ((n + 1 : Nat) : Int) - 1 = ((n + 1 - 1 : Nat) : Int) from by omega]
  have hb : j * (j - 1) ≤ 23 * 22 := Nat.mul_le_mul (by omega) (by omega)
  have hc := pl_cast i j
  have HC := Lib.hid hc
  clear hc
  by_cases h : i < j
  · have hd : decide (i < j) = true := by simpa using h
    rw [hd]
    clear hd
    go_enter Tryz.func118, Tryz.ntmps118
    go_wp2
    go_ret2
    refine ⟨?_, rfl⟩
    rw [HC.out]
    simp only [hj, decide_true, Int.ofNat_lt, and_self]
    first | rfl | (simp; omega) | simp
  · have hd : decide (i < j) = false := by simpa using h
    rw [hd]
    go_enter Tryz.func118, Tryz.ntmps118
    go_wp2
    go_ret2
    refine ⟨?_, rfl⟩
    rw [HC.out]
    first | rfl | (simp; done) | (simp; omega)
/-- U's number of row i and column j. -/
def uV (f : Nat → Int) (i j : Nat) : Int := if i = j then 1073741824 else if i < j then f (pl i j) else 0
theorem u_any (f : Nat → Int) (i j : Nat) (w : World) (hi : i < 24) (hj : j < 24) :
    Calls Tryz.prog 117 #[.agg (arrv 300 f), .int .i64 i, .int .i64 j] w fun e w' => e = .returned (.int .i64 (uV f i j)) ∧ Below w.heap.size w w' := by
  by_cases h : i = j
  · subst h
    rw [show uV f i i = 1073741824 from by simp [uV]]
    go_enter Tryz.func117, Tryz.ntmps117
    go_wp2
    go_ret
    exact ⟨rfl, by (repeat (first | with_reducible exact Below.refl _ _ | with_reducible apply Below.drew | (with_reducible refine below_drewN ?_ _) | (with_reducible refine Below.alloc ?_ (by (try simp) <;> omega) _) | (with_reducible refine Below.setCell ?_ (by (try simp) <;> omega) _)))⟩
  · have hne : ((i : Int) == (j : Int)) = false := by simp; omega
    by_cases h1 : i < j
    · have hp := pl_lt h1 hj
      have ev : uV f i j = f (pl i j) := by simp [uV, h, h1]
      obtain ⟨p, hpp⟩ : ∃ p, pl i j = p := ⟨_, rfl⟩
      have PC := Lib.hid (place_any i j)
      rw [hpp] at hp ev PC
      rw [ev, show decide (i < j) = true from by simpa using h1] at *
      have b0 := (Blk.new w 26 300 f).cell (i := p) (by omega)
      clear h hpp ev
      go_enter Tryz.func117, Tryz.ntmps117
      go_wp2_with (go_at_call 118; refine (PC.out _ hi hj).mono ?_; rintro e w' ⟨rfl, rfl⟩)
      go_ret
      exact ⟨rfl, by (repeat (first | with_reducible exact Below.refl _ _ | with_reducible apply Below.drew | (with_reducible refine below_drewN ?_ _) | (with_reducible refine Below.alloc ?_ (by (try simp) <;> omega) _) | (with_reducible refine Below.setCell ?_ (by (try simp) <;> omega) _)))⟩
    · have ev : uV f i j = 0 := by simp [uV, h, h1]
      have PC := Lib.hid (place_any i j)
      rw [ev]
      rw [show decide (i < j) = false from by simpa using h1] at PC
      clear h ev
      go_enter Tryz.func117, Tryz.ntmps117
      go_wp2_with (go_at_call 118; refine (PC.out _ hi hj).mono ?_; rintro e w' ⟨rfl, rfl⟩)
      go_ret
      exact ⟨rfl, by (repeat (first | with_reducible exact Below.refl _ _ | with_reducible apply Below.drew | (with_reducible refine below_drewN ?_ _) | (with_reducible refine Below.alloc ?_ (by (try simp) <;> omega) _) | (with_reducible refine Below.setCell ?_ (by (try simp) <;> omega) _)))⟩
theorem set_any (f : Nat → Int) (i j : Nat) (v : Int) (w : World) (h1 : i < j) (hj : j < 24) :
    Calls Tryz.prog 90 #[.agg (arrv 300 f), .int .i64 i, .int .i64 j, .int .i64 v] w fun e w' => e = .returned (.agg (arrv 300 (upd f (pl i j) v))) ∧ Below w.heap.size w w' := by
  have hp := pl_lt h1 hj
  have hi : i < 24 := by omega
  obtain ⟨p, hpp⟩ : ∃ p, pl i j = p := ⟨_, rfl⟩
  have pc : ∀ w, Calls Tryz.prog 118 #[.int .i64 i, .int .i64 j] w fun e w' => e = .returned (.tuple #[.int .i64 p, .bool true]) ∧ w = w' := fun w => by
    have := place_any i j w hi hj
    rwa [hpp, show decide (i < j) = true from by simpa using h1] at this
  rw [hpp] at hp ⊢
  have PC := Lib.hid pc
  clear pc hpp h1 hi hj
  go_enter Tryz.func90, Tryz.ntmps90
  go_wp2_with fail
  have A0 := (Blk.new w 26 300 f).alloc (.cells Tryz.zeroCells26 26)
  have A1 := Blk.new1 w (.cells (arrv 300 f) 26) 26 300 (fun _ => 0)
  rw [← zcov] at A1
  have hb : Below w.heap.size w ((w.alloc (.cells (arrv 300 f) 26)).alloc (.cells Tryz.zeroCells26 26)) := by (repeat (first | with_reducible exact Below.refl _ _ | with_reducible apply Below.drew | (with_reducible refine below_drewN ?_ _) | (with_reducible refine Below.alloc ?_ (by (try simp) <;> omega) _) | (with_reducible refine Below.setCell ?_ (by (try simp) <;> omega) _)))
  refine (PC.out _).mono ?_; rintro e w' ⟨rfl, rfl⟩
  generalize (w.alloc (.cells (arrv 300 f) 26)).alloc (.cells Tryz.zeroCells26 26) = W at *
  have b0 := A0.cell (i := p) (by omega)
  have b1 := A0.free p
  have B0 := A0.set p v
  have B1 := A1.other (a := ⟨w.heap.size, p, none⟩) (by simp) (.int .i64 v)
  go_wp2_with (first | (refine wpList_load_row rfl 26 _ rfl w.heap.size rfl 26 _ (0, 0) _ B0 Tryz.underlying26 rfl (icov.trans (by rw [arrv_size])) ?_) | (refine wpList_store_row rfl 26 _ _ rfl (w.heap.size + 1) _ rfl rfl 26 _ B1 (icov.trans (by rw [arrv_size])) (by rw [arrv_size, arrv_size]) (oneCell_arrv _ _) ?_))
  refine bodyPost_ret (results_cell_row Tryz.results90 _ _ (w.heap.size + 1) 26 (arrv 300 (upd f p v)) (0, 0) _ rfl (setRow_heap _ _ _ _ _ _ B1) Tryz.underlying26 rfl (icov.trans (by rw [arrv_size]))) rfl ⟨rfl, ?_⟩
  exact below_row (hb.setCell (Nat.le_refl _) _) (by omega) _
end Go.Proofs.YtgfklheepkgedaaGreat
/- Contracts of package thornton (1): One, rows. -/
namespace Go.Proofs.YtgfklheepkgedaaGreat
open Go.RowKit
set_option maxRecDepth 100000
def oneF : Nat → Int := fun i => if i / 24 = i % 24 then 1073741824 else 0
def oneS (k : Nat) : Nat → Int := fun i => if i / 24 = i % 24 ∧ i / 24 < k then 1073741824 else 0
theorem zmat : Tryz.zeroCells96 = arrv 576 (fun _ => 0) := by kernel_rfl
theorem imat : (Tryz.prog.info? 96).map (·.size) = some 576 := by kernel_rfl
structure OneR (w : World) (g : Nat → Int) (wr : World) : Prop where
  below : Below w.heap.size w wr
  res : Blk wr w.heap.size 96 576 (fun _ => 0)
  blk : Blk wr (w.heap.size + 1) 96 576 g
theorem one_any (w : World) :
    Calls Tryz.prog 52 #[] w fun e w' => e = .returned (.agg (arrv 576 oneF)) ∧ Below w.heap.size w w' := by
  go_enter Tryz.func52, Tryz.ntmps52
  go_wp2_with fail
  go_loopw [3] (fun i wr => ∃ k : Nat, k ≤ 24 ∧ i = .int .i64 k ∧ Hid (OneR w (oneS k) wr)) (fun i _ => 24 - (intOf i).toNat)
  case atStart =>
    refine ⟨0, by omega, rfl, ⟨by (repeat (first | with_reducible exact Below.refl _ _ | with_reducible apply Below.drew | (with_reducible refine below_drewN ?_ _) | (with_reducible refine Below.alloc ?_ (by (try simp) <;> omega) _) | (with_reducible refine Below.setCell ?_ (by (try simp) <;> omega) _))), ?_, ?_⟩⟩
    · rw [zmat]; exact (Blk.new w _ _ _).alloc _
    · rw [zmat]; exact (Blk.new1 w _ _ _ _).congr fun i hi => by simp [oneS]
  case round =>
    obtain ⟨k, hk, rfl, R⟩ := hrel
    by_cases hlt : k < 24
    · have b0 := R.out.blk.cell (i := k * 24 + k) (by omega)
      have b1 := R.out.blk.free (k * 24 + k)
      go_wp2_with fail
      go_roundw
      case rel =>
        refine ⟨k + 1, by omega, by go_num, ⟨R.out.below.setCell (by simp) _, R.out.res.other (by simp) _, ?_⟩⟩
        refine (R.out.blk.set _ _).congr fun i hi => ?_
        simp only [Go.Proofs.YtgfklheepkgedaaGreat.upd, oneS]
        by_cases h1 : i = k * 24 + k
        · subst h1; rw [if_pos rfl, if_pos (by omega)]
        · rw [if_neg h1]; split <;> split <;> first | rfl | omega
      case measure => simp [intOf]; omega
    · have hk24 : k = 24 := by omega
      subst hk24
      have B0 := R.out.res
      have B1 := R.out.blk
      have HB := Lib.hid R.out.below
      clear R hlt hk
      rw [show ((24 : Nat) : Int) = 24 from rfl]
      go_wp2_with (first | (refine wpList_load_row rfl 96 _ rfl (w.heap.size + 1) rfl 96 _ (0, 0) _ B1 Tryz.underlying96 rfl (imat.trans (by rw [arrv_size])) ?_) | (refine wpList_store_row rfl 96 _ _ rfl w.heap.size _ rfl rfl 96 _ B0 (imat.trans (by rw [arrv_size])) (by rw [arrv_size, arrv_size]) (oneCell_arrv _ _) ?_))
      refine bodyPost_ret (results_cell_row Tryz.results52 _ _ w.heap.size 96 (arrv 576 (oneS 24)) (0, 0) _ rfl (setRow_heap _ _ _ _ _ _ B0) Tryz.underlying96 rfl (imat.trans (by rw [arrv_size]))) rfl ⟨?_, ?_⟩
      · rw [arrv_congr (g := oneF) fun i hi => by simp only [oneS, oneF]; split <;> split <;> first | rfl | omega]
      · exact below_row HB.out (Nat.le_refl _) _

/-- Column k of U; row i of a matrix. -/
def colF (f : Nat → Int) (k : Nat) : Nat → Int := fun m => if m ≤ k then uV f m k else 0
def rwV (f F : Nat → Int) (i k : Nat) : Int := dotV 30 (rowF 24 F i) (colF f k) 24
def rwB (f F : Nat → Int) (i k : Nat) : Bool := dotH 30 (rowF 24 F i) (colF f k) 24
def rwS (f F : Nat → Int) (k i : Nat) : Nat → Int := fun j => if j % 48 < k ∨ (j % 48 = k ∧ j / 48 < i) then rwV f F (j / 48) (j % 48) else 0
def rwE (f F : Nat → Int) (i : Nat) : Nat → Int := fun j => if j % 48 = 24 + j / 48 ∧ j / 48 < i then 1073741824 else rwS f F 24 0 j
def rowsW (f F : Nat → Int) : Nat → Int := fun j => if j % 48 < 24 then rwV f F (j / 48) (j % 48) else if j % 48 = 24 + j / 48 then 1073741824 else 0
def rwH (f F : Nat → Int) (k : Nat) : Bool := orB (fun k => orB (fun i => rwB f F i k) 24) k
def rowsH (f F : Nat → Int) : Bool := rwH f F 24
structure RowsR (c : Addr) (h : Bool) (f W : Nat → Int) (w wr : World) : Prop where
  upd : Upd c h w wr
  pb : Blk wr w.heap.size 26 300 f
  wb : Blk wr (w.heap.size + 1) 146 1152 W
theorem zrows : Tryz.zeroCells146 = arrv 1152 (fun _ => 0) := by kernel_rfl
theorem zcol : (#[.int .i64 0, .int .i64 0, .int .i64 0, .int .i64 0, .int .i64 0, .int .i64 0, .int .i64 0, .int .i64 0, .int .i64 0, .int .i64 0, .int .i64 0, .int .i64 0, .int .i64 0, .int .i64 0, .int .i64 0, .int .i64 0, .int .i64 0, .int .i64 0, .int .i64 0, .int .i64 0, .int .i64 0, .int .i64 0, .int .i64 0, .int .i64 0] : Array Value) = arrv 24 (fun _ => 0) := by kernel_rfl
end Go.Proofs.YtgfklheepkgedaaGreat
/- bierman's numbers: what an update reckons with, and what it makes. No program. -/
namespace Go.Proofs.YtgfklheepkgedaaGreat
end Go.Proofs.YtgfklheepkgedaaGreat
/- Contract of thornton.rows. -/
namespace Go.Proofs.YtgfklheepkgedaaGreat
open Go.RowKit
set_option maxRecDepth 100000
set_option maxHeartbeats 1000000 in
theorem rows_any (c : Addr) (h : Bool) (f F : Nat → Int) (fb : Nat) (w : World) (hc : w.cell? c = some (.bool h)) (hf : w.frozen? c = false) (hF : Blk w fb 96 576 F) :
    Calls Tryz.prog 89 #[.pointer (some c), .agg (arrv 300 f), .pointer (some ⟨fb, 0, none⟩)] w fun e w' =>
      e = .returned (.pointer (some ⟨w.heap.size + 1, 0, none⟩)) ∧ Upd c (h || rowsH f F) w w' ∧ Blk w' (w.heap.size + 1) 146 1152 (rowsW f F) := by
  have hcb := World.block_lt_of_cell? w c hc
  have hfl := hF.lt
  have hfc := hF.flag hc
  have HC := Lib.hid hc
  have HF := Lib.hid hf
  have HM := Lib.hid hF
  clear hc hf hF
  go_enter Tryz.func89, Tryz.ntmps89
  go_wp2_with fail
  go_loopw [13] (fun i wr => ∃ k : Nat, k ≤ 24 ∧ i = .int .i64 k ∧ Hid (RowsR c (h || rwH f F k) f (rwS f F k 0) w wr)) (fun i _ => 24 - (intOf i).toNat)
  case atStart =>
    refine ⟨0, by omega, rfl, ⟨?_, ?_, ?_⟩⟩
    · rw [show (h || rwH f F 0) = h from by simp [rwH, orB]]
      exact Upd.then (Upd.refl HC.out) (by (repeat (first | with_reducible exact Below.refl _ _ | with_reducible apply Below.drew | (with_reducible refine below_drewN ?_ _) | (with_reducible refine Below.alloc ?_ (by (try simp) <;> omega) _) | (with_reducible refine Below.setCell ?_ (by (try simp) <;> omega) _))))
    · exact (Blk.new w _ _ _).alloc _
    · rw [zrows]; exact (Blk.new1 w _ _ _ _).congr fun i hi => by simp [rwS]
  case round =>
    obtain ⟨k, hk, rfl, R⟩ := hrel
    by_cases hlt : k < 24
    · have PB := R.out.pb
      have d1 : decide ((k : Int) < 24) = true := by simp; omega
      obtain ⟨wo, rfl⟩ : ∃ wo : World, wo = wr := ⟨_, rfl⟩
      go_wp2_with fail
      go_loopw [18] (fun i wr => ∃ m : Nat, m ≤ k + 1 ∧ i = .int .i64 m ∧ Hid (Below wo.heap.size wo wr ∧ Blk wr wo.heap.size 22 24 (fun j => if j < m then colF f k j else 0))) (fun i _ => k + 1 - (intOf i).toNat)
      case atStart =>
        refine ⟨0, by omega, rfl, by (repeat (first | with_reducible exact Below.refl _ _ | with_reducible apply Below.drew | (with_reducible refine below_drewN ?_ _) | (with_reducible refine Below.alloc ?_ (by (try simp) <;> omega) _) | (with_reducible refine Below.setCell ?_ (by (try simp) <;> omega) _))), ?_⟩
        rw [zcol]; exact (Blk.new wo _ _ _).congr fun i hi => by simp
      case round =>
        obtain ⟨m, hm, rfl, Q⟩ := hrel
        by_cases hmk : m < k + 1
        · have PB2 := PB.below Q.out.1
          go_wp2_with (first | (refine wpList_load_row rfl 26 _ rfl w.heap.size rfl 26 _ (0, 0) _ PB2 Tryz.underlying26 rfl (icov.trans (by rw [arrv_size])) ?_))
          refine (u_any f m k _ (by omega) hlt).mono ?_; rintro e w2 ⟨rfl, hb2⟩
          have Q2 := Q.out.2.below hb2
          have q0 := Q2.cell (i := m) (by omega)
          have q1 := Q2.free m
          have HB2 := Lib.hid (Below.after Q.out.1 hb2)
          clear hb2 PB2
          go_wp2_with fail
          go_roundw
          case rel =>
            refine ⟨m + 1, by omega, by go_num, HB2.out.setCell (Nat.le_refl _) _, ?_⟩
            refine (Q2.set _ _).congr fun i hi => ?_
            simp only [Go.Proofs.YtgfklheepkgedaaGreat.upd]
            by_cases h1 : i = m
            · subst h1; rw [if_pos rfl, if_pos (by omega)]; simp [colF]; omega
            · rw [if_neg h1]; split <;> split <;> first | rfl | omega
          case measure => simp [intOf]; omega
        · have hmk1 : m = k + 1 := by omega
          subst hmk1
          have CB := Q.out.2.congr (g := colF f k) fun i hi => by simp [colF]; omega
          have UU := Lib.hid ((R.out.upd.then Q.out.1))
          have PB3 := PB.below Q.out.1
          have WB := R.out.wb.below Q.out.1
          have hbs : w.heap.size + 1 < wo.heap.size := R.out.wb.lt
          clear Q hm hmk R PB
          obtain ⟨bc, hbc⟩ : ∃ bc, wo.heap.size = bc := ⟨_, rfl⟩
          rw [hbc] at CB hbs ⊢
          clear hbc
          rw [show ((k + 1 : Nat) : Int) = (k : Int) + 1 from by omega]
          go_wp2_with fail
          go_loopw [28] (fun i wr => ∃ m : Nat, m ≤ 24 ∧ i = .int .i64 m ∧ Hid (RowsR c (h || rwH f F k || orB (fun i => rwB f F i k) m) f (rwS f F k m) w wr ∧ Blk wr bc 22 24 (colF f k))) (fun i _ => 24 - (intOf i).toNat)
          case atStart =>
            refine ⟨0, by omega, rfl, ⟨?_, PB3, WB⟩, CB⟩
            rw [show (h || rwH f F k || orB (fun i => rwB f F i k) 0) = (h || rwH f F k) from by simp [orB]]
            exact UU.out
          case round =>
            obtain ⟨m, hm, rfl, Q⟩ := hrel
            by_cases hm24 : m < 24
            · have rc := Q.out.1.upd.cellc HC.out
              have rf := (Q.out.1.upd.frozen hcb).trans HF.out
              have MB := HM.out.upd Q.out.1.upd hfc
              go_wp2_with fail
              have d2 : decide ((m : Int) < 24) = true := by simp; omega
              have hk0 : (0 : Int) ≤ (k : Int) := Int.natCast_nonneg _
              have hm0 : (0 : Int) ≤ (m : Int) := Int.natCast_nonneg _
              have hk1 : (k : Int) < 24 := by omega
              have hm1 : (m : Int) < 24 := by omega
              have wb0 := Q.out.1.wb.cell (i := m * 48 + k) (by omega)
              have wb1 := Q.out.1.wb.free (m * 48 + k)
              have ga : ∀ i, i < 24 → wr.drew.cell? ⟨fb, m * 24 + i, none⟩ = some (.int .i64 (rowF 24 F m i)) := fun i hi => (MB.cell (i := m * 24 + i) (by omega)).trans rfl
              have gb : ∀ i, i < 24 → wr.drew.cell? ⟨bc, 0 + i, none⟩ = some (.int .i64 (colF f k i)) := fun i hi => by rw [Nat.zero_add]; exact Q.out.2.cell (i := i) hi
              have DC := Lib.hid (dot_any c _ 30 _ _ fb (m * 24) 24 bc 0 24 24 wr.drew rc rf (by decide) (by decide) (by decide) ga gb)
              clear ga gb
              go_region_with (go_at_call 51; (refine DC.out.mono ?_); rintro e w3 ⟨rfl, hu3⟩; (have wb3 := (Q.out.1.wb.drew.upd hu3 (Q.out.1.wb.flag rc)).cell (i := m * 48 + k) (by omega)); (have fz3 := (Q.out.1.wb.drew.upd hu3 (Q.out.1.wb.flag rc)).free (m * 48 + k)))
              have U3 : Upd c (h || rwH f F k || orB (fun i => rwB f F i k) m || rwB f F m k) wr w3 := Upd.after (Below.drew (Below.refl _ _)) hu3
              have W3 := Q.out.1.wb.upd U3 (Q.out.1.wb.flag rc)
              have P3 := Q.out.1.pb.upd U3 (Q.out.1.pb.flag rc)
              have C3 := Q.out.2.upd U3 (Q.out.2.flag rc)
              have HU3 := Lib.hid U3
              clear U3 hu3 wb3 fz3 wb0 wb1
              go_wp2_with fail
              go_roundw
              case rel =>
                refine ⟨m + 1, by omega, by go_num, ⟨?_, P3.other (by simp) _, ?_⟩, C3.other (by simp; omega) _⟩
                · rw [show (h || rwH f F k || orB (fun i => rwB f F i k) (m + 1)) = (h || rwH f F k || orB (fun i => rwB f F i k) m || rwB f F m k) from by simp [orB, Bool.or_assoc]]
                  exact (Q.out.1.upd.trans HU3.out).setCell (by simp) _
                · refine (W3.set _ _).congr fun i hi => ?_
                  simp only [Go.Proofs.YtgfklheepkgedaaGreat.upd, rwS, rwV]
                  by_cases h1 : i = m * 48 + k
                  · subst h1
                    rw [if_pos rfl, if_pos (by omega), show (m * 48 + k) / 48 = m by omega, show (m * 48 + k) % 48 = k by omega]
                  · rw [if_neg h1]; split <;> split <;> first | rfl | omega
              case measure => simp [intOf]; omega
            · have hm1 : m = 24 := by omega
              subst hm1
              rw [show ((24 : Nat) : Int) = 24 from rfl]
              have HQ := Lib.hid Q.out.1
              clear Q hm hm24 CB UU PB3 WB hbs
              go_wp2_with fail
              go_roundw
              case rel =>
                refine ⟨k + 1, by omega, by go_num, ⟨?_, HQ.out.pb, ?_⟩⟩
                · rw [show (h || rwH f F (k + 1)) = (h || rwH f F k || orB (fun i => rwB f F i k) 24) from by simp [rwH, orB, Bool.or_assoc]]
                  exact HQ.out.upd
                · exact HQ.out.wb.congr fun i hi => by simp only [rwS]; split <;> split <;> first | rfl | omega
              case measure => simp [intOf]; omega
    · have hk24 : k = 24 := by omega
      subst hk24
      rw [show ((24 : Nat) : Int) = 24 from rfl]
      have HQ := R
      clear R hk hlt
      go_wp2_with fail
      go_loopw [45] (fun i wr => ∃ m : Nat, m ≤ 24 ∧ i = .int .i64 m ∧ Hid (RowsR c (h || rwH f F 24) f (rwE f F m) w wr)) (fun i _ => 24 - (intOf i).toNat)
      case atStart =>
        exact ⟨0, by omega, rfl, ⟨HQ.out.upd, HQ.out.pb, HQ.out.wb.congr fun i hi => by simp [rwE]⟩⟩
      case round =>
        obtain ⟨m, hm, rfl, Q⟩ := hrel
        by_cases hm24 : m < 24
        · have wb0 := Q.out.wb.cell (i := m * 48 + (24 + m)) (by omega)
          have wb1 := Q.out.wb.free (m * 48 + (24 + m))
          go_wp2_with fail
          go_roundw
          case rel =>
            refine ⟨m + 1, by omega, by go_num, ⟨Q.out.upd.setCell (by simp) _, Q.out.pb.other (by simp) _, ?_⟩⟩
            refine (Q.out.wb.set _ _).congr fun i hi => ?_
            simp only [Go.Proofs.YtgfklheepkgedaaGreat.upd, rwE]
            by_cases h1 : i = m * 48 + (24 + m)
            · subst h1; rw [if_pos rfl, if_pos (by omega)]
            · rw [if_neg h1]; split <;> split <;> first | rfl | omega
          case measure => simp [intOf]; omega
        · have hm1 : m = 24 := by omega
          subst hm1
          have HQ2 := Lib.hid Q.out
          clear Q hm hm24 HQ
          go_wp2_with fail
          go_ret
          refine ⟨rfl, HQ2.out.upd, HQ2.out.wb.congr fun i hi => ?_⟩
          simp only [rwE, rowsW, rwS]
          by_cases h1 : i % 48 < 24
          · rw [if_neg (by omega), if_pos h1, if_pos (by omega)]
          · rw [if_neg h1, if_neg (show ¬ (i % 48 < 24 ∨ i % 48 = 24 ∧ i / 48 < 0) by omega)]
            split <;> split <;> first | rfl | omega
end Go.Proofs.YtgfklheepkgedaaGreat
