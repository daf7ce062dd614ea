/- Contracts of the program's functions and plain laws, part 6: they hold for all arguments. -/
import Derived.Test.YtgfklheepkgedaaGreatQ05
import Derived.Test.YtgfklheepkgedaaGreatQ04
import Derived.Deep.Cut
import Derived.Deep.CutRange
import Derived.Laws.AppendOwn
import Derived.Test.YtgfklheepkgedaaGreatQ02
import Derived.Deep.AppendLies
/- Contracts of package quat: sat, One, Unit. -/
namespace Go.Proofs.YtgfklheepkgedaaGreat
open Go.RowKit
set_option maxRecDepth 100000
theorem iqt : (Tryz.prog.info? 38).map (·.size) = some 4 := by kernel_rfl
theorem zq4 : (#[.int .i64 0, .int .i64 0, .int .i64 0, .int .i64 0] : Array Value) = arrv 4 (fun _ => 0) := by kernel_rfl
theorem oq4 : (#[.int .i64 1073741824, .int .i64 0, .int .i64 0, .int .i64 0] : Array Value) = arrv 4 oneQ := by kernel_rfl
theorem qone_any (w : World) : Calls Tryz.prog 18 #[] w fun e w' => e = .returned (.agg (arrv 4 oneQ)) ∧ Below w.heap.size w w' := by
 go_enter Tryz.func18, Tryz.ntmps18
 go_wp2_with fail
 refine bodyPost_ret (v := .agg #[.int .i64 1073741824, .int .i64 0, .int .i64 0, .int .i64 0]) (by simp [results, Tryz.results18, go_sem]) rfl ⟨by rw [oq4], ?_⟩
 (repeat (first | with_reducible exact Below.refl _ _ | with_reducible apply Below.drew | (with_reducible refine below_drewN ?_ _) | (with_reducible refine Below.alloc ?_ (by (try simp) <;> omega) _) | (with_reducible refine Below.setCell ?_ (by (try simp) <;> omega) _)))
/-- The first k are clamped. -/
def satK (A : Nat → Int) (k : Nat) : Nat → Int := fun i => if i < k then satV (A i) else A i
structure QsR (c : Addr) (h : Bool) (g : Nat → Int) (w wr : World) : Prop where
 upd : Upd c h w wr
 blk : Blk wr w.heap.size 38 4 g
 res : Blk wr (w.heap.size + 1) 38 4 (fun _ => 0)
theorem qsat_any (c : Addr) (h : Bool) (A : Nat → Int) (w : World) (hc : w.cell? c = some (.bool h)) (hf : w.frozen? c = false) :
  Calls Tryz.prog 47 #[.pointer (some c), .agg (arrv 4 A)] w fun e w' => e = .returned (.agg (arrv 4 (satA A))) ∧ Upd c (h || orB (fun i => satH (A i)) 4) w w' := by
 have hcb := World.block_lt_of_cell? w c hc
 have HC := Lib.hid hc
 have HF := Lib.hid hf
 clear hc hf
 go_enter Tryz.func47, Tryz.ntmps47
 go_wp2_with fail
 go_loopw [6] (fun i wr => ∃ k : Nat, k ≤ 4 ∧ i = .int .i64 k ∧ Hid (QsR c (h || orB (fun i => satH (A i)) k) (satK A k) w wr)) (fun i _ => 4 - (intOf i).toNat)
 case atStart =>
  refine ⟨0, by omega, rfl, ⟨?_, ?_, ?_⟩⟩
  ·rw [show (h || orB (fun i => satH (A i)) 0) = h from by simp [orB]]
   exact Upd.then (Upd.refl HC.out) (by (repeat (first | with_reducible exact Below.refl _ _ | with_reducible apply Below.drew | (with_reducible refine below_drewN ?_ _) | (with_reducible refine Below.alloc ?_ (by (try simp) <;> omega) _) | (with_reducible refine Below.setCell ?_ (by (try simp) <;> omega) _))))
  ·exact (Blk.alloc (Blk.new w _ 4 A) _).congr fun i hi => by simp [satK]
  ·rw [zq4]; exact Blk.new1 w _ _ 4 _
 case round =>
  obtain ⟨k, hk, rfl, R⟩ := hrel
  by_cases hlt : k < 4
  ·have rc := R.out.upd.cellc HC.out
   have rf := (R.out.upd.frozen hcb).trans HF.out
   have b0 := R.out.blk.cell (i := k) (by omega)
   have b1 := R.out.blk.free k
   have n0 := ne_of_cells rc b0
   have hv : satK A k k = A k := by simp [satK]
   rw [hv] at b0
   clear hv
   go_wp2_with (go_at_call 81; refine (sat_any c _ _ _ rc rf).mono ?_; rintro e w' ⟨rfl, rfl⟩)
   go_roundw
   case rel =>
    refine ⟨k + 1, by omega, by go_num, ⟨?_, ?_, ?_⟩⟩
    ·rw [show (h || orB (fun i => satH (A i)) (k + 1)) = (h || orB (fun i => satH (A i)) k || satH (A k)) from by simp [orB, Bool.or_assoc]]
     exact (R.out.upd.trans (Upd.set c _ _)).setCell (Nat.le_refl _) _
    ·refine ((R.out.blk.other (R.out.blk.flag rc) _).set _ _).congr fun i hi => ?_
     simp only [Go.Proofs.YtgfklheepkgedaaGreat.upd, satK]
     by_cases h1 : i = k
     ·subst h1; simp
     ·rw [if_neg h1]; split <;> split <;> first | rfl | omega
    ·exact (R.out.res.other (R.out.res.flag rc) _).other (by simp) _
   case measure => simp [intOf]; omega
  ·have hk4 : k = 4 := by omega
   subst hk4
   have B0 := R.out.blk
   have B1 := R.out.res
   have U := Lib.hid R.out.upd
   clear R hlt hk
   rw [show ((4 : Nat) : Int) = 4 from rfl]
   go_wp2_with (first | (refine wpList_load_row rfl 38 _ rfl (w.heap.size) rfl 38 _ (0, 0) _ (B0) Tryz.underlying38 rfl (iqt.trans (by rw [arrv_size])) ?_) | (refine wpList_store_row rfl 38 _ _ rfl (w.heap.size + 1) _ rfl rfl 38 _ (B1) (iqt.trans (by rw [arrv_size])) (by rw [arrv_size, arrv_size]) (oneCell_arrv _ _) ?_))
   refine bodyPost_ret (results_cell_row Tryz.results47 _ _ (w.heap.size + 1) 38 (arrv 4 (satK A 4)) (0, 0) _ rfl (setRow_heap _ _ _ _ _ _ B1) Tryz.underlying38 rfl (iqt.trans (by rw [arrv_size]))) rfl ⟨?_, ?_⟩
   ·rw [arrv_congr (g := satA A) fun i hi => by simp only [satK, satA]; rw [if_pos hi]]
   ·exact U.out.then' (below_row (Below.refl _ _) (by omega) _)
end Go.Proofs.YtgfklheepkgedaaGreat
/- Contract of quat.Unit. -/
namespace Go.Proofs.YtgfklheepkgedaaGreat
open Go.RowKit
set_option maxRecDepth 100000
theorem zer4_eq (A : Nat → Int) : eqB 4 A (fun _ => 0) = zer4 A := by
 rw [Bool.eq_iff_iff, eqB_iff]
 simp only [zer4, Bool.and_eq_true, decide_eq_true_eq]
 constructor
 ·intro h
  exact ⟨⟨⟨h 0 (by decide), h 1 (by decide)⟩, h 2 (by decide)⟩, h 3 (by decide)⟩
 ·rintro ⟨⟨⟨a, b⟩, d⟩, e⟩ i hi
  obtain rfl | rfl | rfl | rfl : i = 0 ∨ i = 1 ∨ i = 2 ∨ i = 3 := by omega
  ·exact a
  ·exact b
  ·exact d
  ·exact e
theorem divV_ok (c : Addr) (h : Bool) (a b : Int) (w : World) (hc : w.cell? c = some (.bool h)) (hf : w.frozen? c = false) :
  Calls Tryz.prog 49 #[.pointer (some c), .int .i64 a, .int .i64 b, .int .i64 30] w fun e w' => e = .returned (.int .i64 (divV a b 30)) ∧ Upd c (h || divH a b 30) w w' := fdiv_any c h a b 30 w hc hf
/-- n turns of Unit's loop. -/
def turN (A : Nat → Int) : Nat → Nat → Int | 0 => A | n + 1 => uniT (turN A n)
def turH (A : Nat → Int) : Nat → Bool | 0 => false | n + 1 => turH A n || uniTH (turN A n)
/-- Of a turn the first k. -/
def turK (A : Nat → Int) (m : Int) (k : Nat) : Nat → Int := fun i => if i < k then divV (A i) m 30 else A i
structure QuR (c : Addr) (h : Bool) (g : Nat → Int) (w wr : World) : Prop where
 upd : Upd c h w wr
 blk : Blk wr w.heap.size 38 4 g
 res : Blk wr (w.heap.size + 1) 38 4 (fun _ => 0)
theorem QuR.upd' {c : Addr} {h h' : Bool} {g : Nat → Int} {w wr w' : World} (s : QuR c h g w wr) (hc : c.block < w.heap.size) (u : Upd c h' wr w') : QuR c h' g w w' :=
 ⟨s.upd.trans u, s.blk.upd u (by omega), s.res.upd u (by omega)⟩
set_option maxHeartbeats 2000000 in
theorem qunit_any (c : Addr) (h : Bool) (A : Nat → Int) (w : World) (hc : w.cell? c = some (.bool h)) (hf : w.frozen? c = false) :
  Calls Tryz.prog 22 #[.pointer (some c), .agg (arrv 4 A)] w fun e w' => e = .returned (.agg (arrv 4 (uniV A))) ∧ Upd c (h || uniH A) w w' := by
 have hcb := World.block_lt_of_cell? w c hc
 have S0 : QuR c h A w ((w.alloc (.cells (arrv 4 A) 38)).alloc (.cells #[.int .i64 0, .int .i64 0, .int .i64 0, .int .i64 0] 38)) :=
  ⟨Upd.then (Upd.refl hc) (by (repeat (first | with_reducible exact Below.refl _ _ | with_reducible apply Below.drew | (with_reducible refine below_drewN ?_ _) | (with_reducible refine Below.alloc ?_ (by (try simp) <;> omega) _) | (with_reducible refine Below.setCell ?_ (by (try simp) <;> omega) _)))), Blk.alloc (Blk.new w _ 4 A) _, by rw [zq4]; exact Blk.new1 w _ _ 4 _⟩
 have HC := Lib.hid hc
 have HF := Lib.hid hf
 clear hc hf
 go_enter Tryz.func22, Tryz.ntmps22
 go_upto_region 1 with fail
 generalize (w.alloc (.cells (arrv 4 A) 38)).alloc (.cells #[.int .i64 0, .int .i64 0, .int .i64 0, .int .i64 0] 38) = W0 at *
 have P0 := S0.blk
 have H0 := Lib.hid S0
 have SC := Lib.hid (qsat_any c h A W0 (S0.upd.cellc HC.out) ((S0.upd.frozen hcb).trans HF.out))
 clear S0
 go_upto_region 2 with (first | (refine wpList_load_row rfl 38 _ rfl (w.heap.size) rfl 38 _ (0, 0) _ (P0) Tryz.underlying38 rfl (iqt.trans (by rw [arrv_size])) ?_) | (go_at_call 47; (refine SC.out.mono ?_); rintro e w1 ⟨rfl, hu1⟩; have P1 := P0.upd hu1 (by omega)) | (refine wpList_store_row rfl 38 _ _ rfl (w.heap.size) _ rfl rfl 38 _ (P1) (iqt.trans (by rw [arrv_size])) (by rw [arrv_size, arrv_size]) (oneCell_arrv _ _) ?_))
 have S1 := H0.out.upd' hcb hu1
 have S2 : QuR c (h || orB (fun i => satH (A i)) 4) (satA A) w (w1.setRow w.heap.size (arrv 4 (satA A))) :=
  ⟨S1.upd.then' (below_row (Below.refl _ _) (Nat.le_refl _) _), S1.blk.setRow _, S1.res.setRow_other _ (by omega)⟩
 clear S1 SC P0 P1 H0 hu1
 generalize w1.setRow w.heap.size (arrv 4 (satA A)) = W1 at *
 have P2 := S2.blk
 have H2 := Lib.hid S2
 have EZ := zer4_eq (satA A)
 by_cases hz : zer4 (satA A) = true
 ·rw [hz] at EZ
  have e1 : uniV A = oneQ := by unfold uniV; rw [if_pos hz]
  have e2 : (h || uniH A) = (h || orB (fun i => satH (A i)) 4) := by unfold uniH; rw [if_pos hz, Bool.or_false]
  have EZ := Lib.hid EZ
  have E1 := Lib.hid (And.intro e1 e2)
  clear hz e1 e2 S2
  refine wp_region_lit ?_
  refine wpList_val (v := ?_) rfl ?_ ?_
  rotate_left
  ·refine Eq.trans (run_load_row 38 (.tmp 3) (by rfl) (w.heap.size) (by rfl) _ _ _ _ (P2) Tryz.underlying38 rfl (iqt.trans (by rw [arrv_size]))) ?_; with_reducible rfl
  (try simp only [Act.put, nA, nB, nC])
  refine tv ?_
  (try simp only [Act.put, nA, nB, nC])
  refine wpList_val (v := ?_) rfl ?_ ?_
  rotate_left
  ·refine Eq.trans (run_op_eqlVec Tryz.underlying38 (by kernel_rfl) (.tmp 10) (.tmp 11) (by rfl) (by rfl) (g := fun _ => 0) (by rw [← zq4]; rfl) EZ.out) ?_; with_reducible rfl
  (try simp only [Act.put, nA, nB, nC])
  refine wpList_nil ?_
  have B1 := H2.out.res
  go_wp2_with fail
  refine (qone_any _).mono ?_; rintro e w3 ⟨rfl, hb3⟩
  have R3 := B1.below hb3
  go_wp2_with (refine wpList_store_row rfl 38 _ _ rfl (w.heap.size + 1) _ rfl rfl 38 _ (R3) (iqt.trans (by rw [arrv_size])) (by rw [arrv_size, arrv_size]) (oneCell_arrv _ _) ?_)
  refine bodyPost_ret (results_cell_row Tryz.results22 _ _ (w.heap.size + 1) 38 (arrv 4 oneQ) (0, 0) _ rfl (setRow_heap _ _ _ _ _ _ R3) Tryz.underlying38 rfl (iqt.trans (by rw [arrv_size]))) rfl ⟨by rw [E1.out.1], ?_⟩
  rw [E1.out.2]
  exact (H2.out.upd.then hb3).then' (below_row (Below.refl _ _) (by omega) _)
 ·have hz2 : zer4 (satA A) = false := by simpa using hz
  rw [hz2] at EZ
  have e1 : uniV A = uniT (uniT (satA A)) := by unfold uniV; rw [if_neg hz]
  have e2 : (h || uniH A) = (h || orB (fun i => satH (A i)) 4 || turH (satA A) 2) := by unfold uniH; rw [if_neg hz, ← Bool.or_assoc]; simp [turH, turN]
  have EZ := Lib.hid EZ
  have E1 := Lib.hid (And.intro e1 e2)
  clear hz e1 e2 S2 hz2
  refine wp_region_lit ?_
  refine wpList_val (v := ?_) rfl ?_ ?_
  rotate_left
  ·refine Eq.trans (run_load_row 38 (.tmp 3) (by rfl) (w.heap.size) (by rfl) _ _ _ _ (P2) Tryz.underlying38 rfl (iqt.trans (by rw [arrv_size]))) ?_; with_reducible rfl
  (try simp only [Act.put, nA, nB, nC])
  refine tv ?_
  (try simp only [Act.put, nA, nB, nC])
  refine wpList_val (v := ?_) rfl ?_ ?_
  rotate_left
  ·refine Eq.trans (run_op_eqlVec Tryz.underlying38 (by kernel_rfl) (.tmp 10) (.tmp 11) (by rfl) (by rfl) (g := fun _ => 0) (by rw [← zq4]; rfl) EZ.out) ?_; with_reducible rfl
  (try simp only [Act.put, nA, nB, nC])
  refine wpList_nil ?_
  obtain ⟨H1, hH1⟩ : ∃ H1, (h || orB (fun i => satH (A i)) 4) = H1 := ⟨_, rfl⟩
  obtain ⟨B, hB⟩ : ∃ B, satA A = B := ⟨_, rfl⟩
  rw [hH1, hB] at H2
  have E2 : Hid (uniV A = turN B 2 ∧ (h || uniH A) = (H1 || turH B 2)) := by rw [← hB, ← hH1]; exact E1
  clear hH1 hB EZ P2
  go_wp2_with fail
  go_loopw [14] (fun i wr => ∃ n : Nat, n ≤ 2 ∧ i = .int .i64 n ∧ Hid (QuR c (H1 || turH B n) (turN B n) w wr)) (fun i _ => 2 - (intOf i).toNat)
  case atStart => exact ⟨0, by omega, rfl, by rw [show (H1 || turH B 0) = H1 from by simp [turH]]; exact H2.out⟩
  case round =>
   obtain ⟨n, hn, rfl, R⟩ := hrel
   by_cases hlt : n < 2
   ·have d1 : decide ((n : Int) < 2) = true := by simp; omega
    obtain ⟨G, hG⟩ : ∃ G, turN B n = G := ⟨_, rfl⟩
    obtain ⟨H3, hH3⟩ : ∃ H3, (H1 || turH B n) = H3 := ⟨_, rfl⟩
    have hstep : turN B (n + 1) = uniT G ∧ (H1 || turH B (n + 1)) = (H3 || uniTH G) := by rw [← hG, ← hH3]; exact ⟨rfl, by simp [turH, Bool.or_assoc]⟩
    have HST := Lib.hid hstep
    rw [hG, hH3] at R
    clear hG hH3 hstep H2
    have rc := R.out.upd.cellc HC.out
    have rf := (R.out.upd.frozen hcb).trans HF.out
    have HY := Lib.hid (hypot_any c H3 G w.heap.size 0 4 4 wr rc rf (by decide) (by decide) (fun i hi => by rw [Nat.zero_add]; exact R.out.blk.cell hi))
    go_wp2_with fail
    refine HY.out.mono ?_; rintro e w2 ⟨rfl, hu2⟩
    have R2 := Lib.hid (R.out.upd' hcb hu2)
    obtain ⟨M, hM⟩ : ∃ M, hypV G 4 = M := ⟨_, rfl⟩
    obtain ⟨H4, hH4⟩ : ∃ H4, (H3 || hypH G 4) = H4 := ⟨_, rfl⟩
    rw [hM]
    rw [hH4] at R2
    have HM := Lib.hid (And.intro hM hH4)
    clear hM hH4 hu2 HY R rc rf
    go_wp2_with fail
    go_loopw [19] (fun i wr => ∃ k : Nat, k ≤ 4 ∧ i = .int .i64 k ∧ Hid (QuR c (H4 || orB (fun i => divH (G i) M 30) k) (turK G M k) w wr)) (fun i _ => 4 - (intOf i).toNat)
    case atStart =>
     refine ⟨0, by omega, rfl, ?_⟩
     rw [show (H4 || orB (fun i => divH (G i) M 30) 0) = H4 from by simp [orB]]
     exact ⟨R2.out.upd, R2.out.blk.congr fun i hi => by simp [turK], R2.out.res⟩
    case round =>
     obtain ⟨k, hk, rfl, R⟩ := hrel
     by_cases hlt4 : k < 4
     ·have rc := R.out.upd.cellc HC.out
      have rf := (R.out.upd.frozen hcb).trans HF.out
      have b0 := R.out.blk.cell (i := k) (by omega)
      have hv : turK G M k k = G k := by simp [turK]
      rw [hv] at b0
      have DV := Lib.hid (divV_ok c _ (G k) M _ rc rf)
      clear hv rc rf
      go_wp2_with fail
      refine DV.out.mono ?_; rintro e w3 ⟨rfl, hu3⟩
      have R3 := Lib.hid (R.out.upd' hcb hu3)
      have b1 := R3.out.blk.cell (i := k) (by omega)
      have b2 := R3.out.blk.free k
      clear hu3 DV R
      go_wp2_with fail
      go_roundw
      case rel =>
       refine ⟨k + 1, by omega, by go_num, ⟨?_, ?_, ?_⟩⟩
       ·rw [show (H4 || orB (fun i => divH (G i) M 30) (k + 1)) = (H4 || orB (fun i => divH (G i) M 30) k || divH (G k) M 30) from by simp [orB, Bool.or_assoc]]
        exact R3.out.upd.setCell (Nat.le_refl _) _
       ·refine (R3.out.blk.set _ _).congr fun i hi => ?_
        simp only [Go.Proofs.YtgfklheepkgedaaGreat.upd, turK]
        by_cases h1 : i = k
        ·subst h1; simp
        ·rw [if_neg h1]; split <;> split <;> first | rfl | omega
       ·exact R3.out.res.other (by simp) _
      case measure => simp [intOf]; omega
     ·have hk4 : k = 4 := by omega
      subst hk4
      rw [show ((4 : Nat) : Int) = 4 from rfl]
      clear hlt4 hk
      go_wp2_with fail
      go_roundw
      case rel =>
       refine ⟨n + 1, by omega, by go_num, ?_⟩
       rw [HST.out.1, HST.out.2]
       have e3 : (H3 || uniTH G) = (H4 || orB (fun i => divH (G i) M 30) 4) := by rw [← HM.out.2, ← HM.out.1]; simp [uniTH, Bool.or_assoc]
       rw [e3]
       exact ⟨R.out.upd, R.out.blk.congr fun i hi => by simp only [turK, uniT, HM.out.1]; rw [if_pos hi], R.out.res⟩
      case measure => simp [intOf]; omega
   ·have hn2 : n = 2 := by omega
    subst hn2
    rw [show ((2 : Nat) : Int) = 2 from rfl]
    have B0 := R.out.blk
    have B1 := R.out.res
    have U := Lib.hid R.out.upd
    clear R hlt hn H2
    go_wp2_with (first | (refine wpList_load_row rfl 38 _ rfl (w.heap.size) rfl 38 _ (0, 0) _ (B0) Tryz.underlying38 rfl (iqt.trans (by rw [arrv_size])) ?_) | (refine wpList_store_row rfl 38 _ _ rfl (w.heap.size + 1) _ rfl rfl 38 _ (B1) (iqt.trans (by rw [arrv_size])) (by rw [arrv_size, arrv_size]) (oneCell_arrv _ _) ?_))
    refine bodyPost_ret (results_cell_row Tryz.results22 _ _ (w.heap.size + 1) 38 (arrv 4 (turN B 2)) (0, 0) _ rfl (setRow_heap _ _ _ _ _ _ B1) Tryz.underlying38 rfl (iqt.trans (by rw [arrv_size]))) rfl ⟨by rw [E2.out.1], ?_⟩
    rw [E2.out.2]
    exact U.out.then' (below_row (Below.refl _ _) (by omega) _)
end Go.Proofs.YtgfklheepkgedaaGreat
/- Contracts of package state (1): Att, turned, clamp. -/
namespace Go.Proofs.YtgfklheepkgedaaGreat
open Go.RowKit
set_option maxRecDepth 100000
theorem ist : (Tryz.prog.info? 23).map (·.size) = some 24 := by kernel_rfl
theorem att_any (S : Nat → Int) (w : World) : Calls Tryz.prog 24 #[.agg (arrv 24 S)] w fun e w' => e = .returned (.agg (arrv 4 S)) ∧ Below w.heap.size w w' := by
 have P0 : Blk ((w.alloc (.cells (arrv 24 S) 23)).alloc (.cells #[.int .i64 0, .int .i64 0, .int .i64 0, .int .i64 0] 38)) w.heap.size 23 24 S := (Blk.new w _ 24 _).alloc _
 have R0 : Blk ((w.alloc (.cells (arrv 24 S) 23)).alloc (.cells #[.int .i64 0, .int .i64 0, .int .i64 0, .int .i64 0] 38)) (w.heap.size + 1) 38 4 (fun _ => 0) := by rw [zq4]; exact Blk.new1 w _ _ 4 _
 have B0 : Below w.heap.size w ((w.alloc (.cells (arrv 24 S) 23)).alloc (.cells #[.int .i64 0, .int .i64 0, .int .i64 0, .int .i64 0] 38)) := by (repeat (first | with_reducible exact Below.refl _ _ | with_reducible apply Below.drew | (with_reducible refine below_drewN ?_ _) | (with_reducible refine Below.alloc ?_ (by (try simp) <;> omega) _) | (with_reducible refine Below.setCell ?_ (by (try simp) <;> omega) _)))
 have haa : ∀ (g : Nat) (W : World), (Instr.arrayAt 38 (.slice (some ⟨g, 0, none⟩) 4 24)).run Tryz.prog W = .ok (.pointer (some ⟨g, 0, none⟩)) W := fun g W => by kernel_rfl
 have B0 := Lib.hid B0
 go_enter Tryz.func24, Tryz.ntmps24
 go_upto_region 1 with fail
 generalize (w.alloc (.cells (arrv 24 S) 23)).alloc (.cells #[.int .i64 0, .int .i64 0, .int .i64 0, .int .i64 0] 38) = W0 at *
 go_wp2_with (first | (refine wpList_load_sub rfl 38 _ rfl w.heap.size 0 4 rfl P0 (by decide) _ Tryz.underlying38 rfl iqt ?_) | (refine wpList_store_row rfl 38 _ _ rfl (w.heap.size + 1) _ rfl rfl 38 _ (R0) (iqt.trans (by rw [arrv_size])) (by rw [arrv_size, arrv_size]) (oneCell_arrv _ _) ?_))
 refine bodyPost_ret (results_cell_row Tryz.results24 _ _ (w.heap.size + 1) 38 (arrv 4 (fun i => S (0 + i))) (0, 0) _ rfl (setRow_heap _ _ _ _ _ _ R0) Tryz.underlying38 rfl (iqt.trans (by rw [arrv_size]))) rfl ⟨?_, ?_⟩
 ·rw [arrv_congr (g := S) fun i hi => by rw [Nat.zero_add]]
 ·exact below_row B0.out (by omega) _
open Go in
/-- copy, as one step of a region that draws its order: the very world behind it. -/
theorem step_copy_row {P : Program} {ops : Array Oper} {o : Oper} {a : Act} {w : World} {K : Act → World → Prop} {Q : Exit → Act → World → Prop} {E : Prop} (hgd : o.guard = none) (d s : Operand) (dT sT : TypeId)
  (ho : o.op = .call { callee := .builtin .copy, args := #[d, s], argTypes := #[dT, sT] }) (elem : TypeId) (hu : P.underlying dT = some (.slice elem)) (hsz : (P.info? elem).map (·.size) = some 1)
  (ad : Addr) (dLen dCap sLen sCap : Nat) (g off : Nat) (hd : a.eval d = .slice (some ⟨g, off, none⟩) dLen dCap) (hs : a.eval s = .slice (some ad) sLen sCap)
  (cur : List Value) (t : TypeId) (hg : w.heap[g]? = some (.cells cur.toArray t (0, 0))) (cs : List Value) (hn : cs.length = Nat.min sLen dLen)
  (hsrc : ∀ j v, cs[j]? = some v → w.cell? (ad.add j) = some v) (hfit : off + cs.length ≤ cur.length) (h1 : ∀ v ∈ cs, v.oneCell' = true)
  (h : K (a.put o.dst (goInt cs.length)) (w.setRow g (splice cur off cs).toArray)) :
  if Region.wanted o (yielded ops a.tmps) = true then Oper.wp P o a w K Q else E := by
 have hw : Region.wanted o (yielded ops a.tmps) = true := by simp [Region.wanted, hgd]
 rw [if_pos hw]
 have hrun := run_copy_row (P := P) w dT sT o.type elem g off dLen dCap ad sLen sCap cur.toArray t cs hu hsz hg hn hsrc (by simpa using hfit) h1
 unfold Oper.wp
 simp [execOp, ho, resolve, invoke, builtin, hd, hs, hrun, Result.andThen]
 have e : (splice cur off cs) = List.take off cur ++ (cs ++ List.drop (off + cs.length) cur) := rfl
 rw [e] at h
 exact h
/-- A state with another quaternion. -/
def turnd (S Q : Nat → Int) : Nat → Int := fun i => if i < 4 then Q i else S i
def quatL (Q : Nat → Int) : List Value := [.int .i64 (Q 0), .int .i64 (Q 1), .int .i64 (Q 2), .int .i64 (Q 3)]
theorem splice_turn (S Q : Nat → Int) : (splice (arrv 24 S).toList 0 (quatL Q)).toArray = arrv 24 (turnd S Q) := by
 apply Array.ext_getElem?
 intro i
 simp only [splice, List.take_zero, List.nil_append, Nat.zero_add, List.getElem?_toArray, List.getElem?_append, List.getElem?_drop, Array.getElem?_toList]
 by_cases h4 : i < 4
 ·rw [if_pos (by simpa [quatL] using h4), arrv_get (by omega)]
  simp only [turnd, if_pos h4]
  obtain rfl | rfl | rfl | rfl : i = 0 ∨ i = 1 ∨ i = 2 ∨ i = 3 := by omega
  all_goals rfl
 ·rw [if_neg (by simpa [quatL] using h4)]
  have : (quatL Q).length = 4 := rfl
  rw [this, show 4 + (i - 4) = i by omega]
  by_cases hi : i < 24
  ·rw [arrv_get hi, arrv_get hi]; simp only [turnd, if_neg h4]
  ·rw [Array.getElem?_eq_none (by rw [arrv_size]; omega), Array.getElem?_eq_none (by rw [arrv_size]; omega)]
set_option maxHeartbeats 1000000 in
theorem turned_any (S Q : Nat → Int) (w : World) : Calls Tryz.prog 41 #[.agg (arrv 24 S), .agg (arrv 4 Q)] w fun e w' => e = .returned (.agg (arrv 24 (turnd S Q))) ∧ Below w.heap.size w w' := by
 have P0 : Blk (((w.alloc (.cells (arrv 24 S) 23)).alloc (.cells (arrv 4 Q) 38)).alloc (.cells #[.int .i64 0, .int .i64 0, .int .i64 0, .int .i64 0, .int .i64 0, .int .i64 0, .int .i64 0, .int .i64 0, .int .i64 0, .int .i64 0, .int .i64 0, .int .i64 0, .int .i64 0, .int .i64 0, .int .i64 0, .int .i64 0, .int .i64 0, .int .i64 0, .int .i64 0, .int .i64 0, .int .i64 0, .int .i64 0, .int .i64 0, .int .i64 0] 23)) w.heap.size 23 24 S := ((Blk.new w _ 24 _).alloc _).alloc _
 have Q0 : Blk (((w.alloc (.cells (arrv 24 S) 23)).alloc (.cells (arrv 4 Q) 38)).alloc (.cells #[.int .i64 0, .int .i64 0, .int .i64 0, .int .i64 0, .int .i64 0, .int .i64 0, .int .i64 0, .int .i64 0, .int .i64 0, .int .i64 0, .int .i64 0, .int .i64 0, .int .i64 0, .int .i64 0, .int .i64 0, .int .i64 0, .int .i64 0, .int .i64 0, .int .i64 0, .int .i64 0, .int .i64 0, .int .i64 0, .int .i64 0, .int .i64 0] 23)) (w.heap.size + 1) 38 4 Q := (Blk.new1 w _ _ 4 _).alloc _
 have R0 : Blk (((w.alloc (.cells (arrv 24 S) 23)).alloc (.cells (arrv 4 Q) 38)).alloc (.cells #[.int .i64 0, .int .i64 0, .int .i64 0, .int .i64 0, .int .i64 0, .int .i64 0, .int .i64 0, .int .i64 0, .int .i64 0, .int .i64 0, .int .i64 0, .int .i64 0, .int .i64 0, .int .i64 0, .int .i64 0, .int .i64 0, .int .i64 0, .int .i64 0, .int .i64 0, .int .i64 0, .int .i64 0, .int .i64 0, .int .i64 0, .int .i64 0] 23)) (w.heap.size + 1 + 1) 23 24 (fun _ => 0) := by rw [zvec24]; exact blk_new2 w _ _ _ 24 _
 have B0 : Below w.heap.size w (((w.alloc (.cells (arrv 24 S) 23)).alloc (.cells (arrv 4 Q) 38)).alloc (.cells #[.int .i64 0, .int .i64 0, .int .i64 0, .int .i64 0, .int .i64 0, .int .i64 0, .int .i64 0, .int .i64 0, .int .i64 0, .int .i64 0, .int .i64 0, .int .i64 0, .int .i64 0, .int .i64 0, .int .i64 0, .int .i64 0, .int .i64 0, .int .i64 0, .int .i64 0, .int .i64 0, .int .i64 0, .int .i64 0, .int .i64 0, .int .i64 0] 23)) := by (repeat (first | with_reducible exact Below.refl _ _ | with_reducible apply Below.drew | (with_reducible refine below_drewN ?_ _) | (with_reducible refine Below.alloc ?_ (by (try simp) <;> omega) _) | (with_reducible refine Below.setCell ?_ (by (try simp) <;> omega) _)))
 have B0 := Lib.hid B0
 have P0 := Lib.hid P0
 have Q0 := Lib.hid Q0
 have R0 := Lib.hid R0
 go_enter Tryz.func41, Tryz.ntmps41
 go_upto_region 1 with fail
 generalize ((w.alloc (.cells (arrv 24 S) 23)).alloc (.cells (arrv 4 Q) 38)).alloc (.cells #[.int .i64 0, .int .i64 0, .int .i64 0, .int .i64 0, .int .i64 0, .int .i64 0, .int .i64 0, .int .i64 0, .int .i64 0, .int .i64 0, .int .i64 0, .int .i64 0, .int .i64 0, .int .i64 0, .int .i64 0, .int .i64 0, .int .i64 0, .int .i64 0, .int .i64 0, .int .i64 0, .int .i64 0, .int .i64 0, .int .i64 0, .int .i64 0] 23) = W0 at *
 have q1 := Lib.hid (show (Tryz.prog.info? 2).map (·.size) = some 1 by kernel_rfl)
 have q2 := Lib.hid (show W0.drew.heap[w.heap.size]? = some (.cells (arrv 24 S).toList.toArray 23 (0, 0)) by rw [Array.toArray_toList]; exact P0.out)
 have q4 : Hid (∀ (j : Nat) (v : Value), (quatL Q)[j]? = some v → W0.drew.cell? ((⟨w.heap.size + 1, 0, none⟩ : Addr).add j) = some v) := by
  refine Lib.hid fun j v hv => ?_
  have hj : j < 4 := (List.getElem?_eq_some_iff.1 hv).1
  have ha : (⟨w.heap.size + 1, 0, none⟩ : Addr).add j = ⟨w.heap.size + 1, j, none⟩ := by unfold Addr.add; split <;> simp_all
  rw [ha, show W0.drew.cell? ⟨w.heap.size + 1, j, none⟩ = W0.cell? ⟨w.heap.size + 1, j, none⟩ from rfl, Q0.out.cell hj]
  have h4 : j = 0 ∨ j = 1 ∨ j = 2 ∨ j = 3 := by omega
  rcases h4 with h | h | h | h <;> (rw [h] at hv ⊢; simp [quatL] at hv; rw [hv])
 have q5 := Lib.hid (show 0 + (quatL Q).length ≤ (arrv 24 S).toList.length by simp [quatL, arrv_size])
 have q6 := Lib.hid (show ∀ v ∈ quatL Q, v.oneCell' = true from fun v hv => by simp [quatL] at hv; rcases hv with rfl | rfl | rfl | rfl <;> rfl)
 refine wp_region_M (fun w' => True) 2 (by kernel_rfl) ?_ (fun hHeld => ?_)
 ·trivial
 refine tk 0 ?_
 (try simp only [Act.put, nA, nB, nC])
 refine tk 1 ?_
 (try simp only [Act.put, nA, nB, nC])
 refine wpAnyM_one 2 rfl (by kernel_rfl) (fun K hK => ?_)
 refine step_copy_row rfl (.tmp 5) (.tmp 6) 71 71 rfl 2 Tryz.underlying71 q1.out ⟨w.heap.size + 1, 0, none⟩ 24 24 4 4 w.heap.size 0 rfl rfl _ 23 q2.out (quatL Q) rfl q4.out q5.out q6.out ?_; rw [splice_turn]
 refine hK.out _ _ (.inl (by kernel_rfl)) (fun _ => ?_)
 clear hK K
 (try simp only [Act.put, nA, nB, nC])
 refine wpAnyM_done (by kernel_rfl) ?_ _
 have X2 : Blk (W0.drew.setRow w.heap.size (arrv 24 (turnd S Q))) w.heap.size 23 24 (turnd S Q) := P0.out.drew.setRow _
 have R2 : Blk (W0.drew.setRow w.heap.size (arrv 24 (turnd S Q))) (w.heap.size + 1 + 1) 23 24 (fun _ => 0) := R0.out.drew.setRow_other _ (by omega)
 have B2 : Below w.heap.size w (W0.drew.setRow w.heap.size (arrv 24 (turnd S Q))) := below_row B0.out.drew (Nat.le_refl _) _
 generalize W0.drew.setRow w.heap.size (arrv 24 (turnd S Q)) = w2 at *
 have B2 := Lib.hid B2
 go_wp2_with (first | (refine wpList_load_row rfl 23 _ rfl (w.heap.size) rfl 23 _ (0, 0) _ (X2) Tryz.underlying23 rfl (ist.trans (by rw [arrv_size])) ?_) | (refine wpList_store_row rfl 23 _ _ rfl (w.heap.size + 1 + 1) _ rfl rfl 23 _ (R2) (ist.trans (by rw [arrv_size])) (by rw [arrv_size, arrv_size]) (oneCell_arrv _ _) ?_))
 refine bodyPost_ret (results_cell_row Tryz.results41 _ _ (w.heap.size + 1 + 1) 23 (arrv 24 (turnd S Q)) (0, 0) _ rfl (setRow_heap _ _ _ _ _ _ R2) Tryz.underlying23 rfl (ist.trans (by rw [arrv_size]))) rfl ⟨rfl, ?_⟩
 exact below_row B2.out (by omega) _
end Go.Proofs.YtgfklheepkgedaaGreat
/- Contracts of package state (2): clamp. -/
namespace Go.Proofs.YtgfklheepkgedaaGreat
open Go.RowKit
set_option maxRecDepth 100000
def clmF (S : Nat → Int) : Nat → Int := fun i => if i < 4 then S i else clampV (S i) (-(boxF i)) (boxF i)
def clmP (S : Nat → Int) (k : Nat) : Bool := clampH (S (4 + k)) (-(boxF (4 + k))) (boxF (4 + k))
def clmH (S : Nat → Int) : Bool := orB (clmP S) 20
def clmI (S : Nat → Int) (k : Nat) : Nat → Int := fun i => if i < 4 + k then clmF S i else S i
theorem boxF_bd (i : Nat) : 134217728 ≤ boxF i ∧ boxF i ≤ 9007199254740992 := by
 unfold boxF
 repeat' split
 all_goals omega
structure ClmR (c : Addr) (h : Bool) (bx : Nat) (g : Nat → Int) (w wr : World) : Prop where
 upd : Upd c h w wr
 blk : Blk wr w.heap.size 23 24 g
 res : Blk wr (w.heap.size + 1) 23 24 (fun _ => 0)
 box : Blk wr bx 111 24 boxF
theorem ClmR.upd' {c : Addr} {h h' : Bool} {bx : Nat} {g : Nat → Int} {w wr w' : World} (s : ClmR c h bx g w wr) (hc : c.block < w.heap.size) (hb : w.heap.size < bx) (u : Upd c h' wr w') : ClmR c h' bx g w w' :=
 ⟨s.upd.trans u, s.blk.upd u (by omega), s.res.upd u (by omega), s.box.upd u (by omega)⟩
theorem ClmR.drew {c : Addr} {h : Bool} {bx : Nat} {g : Nat → Int} {w wr : World} (s : ClmR c h bx g w wr) : ClmR c h bx g w wr.drew := ⟨s.upd.drew, s.blk, s.res, s.box⟩
theorem neg_in (M : Int) (h : 0 ≤ M ∧ M ≤ 9007199254740992) : IntKind.i64.wrap (-M) = -M := IntWalk.i64_in _ (by omega)
set_option maxHeartbeats 2000000 in
theorem clamp24_any (c : Addr) (h : Bool) (S : Nat → Int) (w : World) (hc : w.cell? c = some (.bool h)) (hf : w.frozen? c = false) :
  Calls Tryz.prog 42 #[.pointer (some c), .agg (arrv 24 S)] w fun e w' => e = .returned (.agg (arrv 24 (clmF S))) ∧ Upd c (h || clmH S) w w' := by
 have hcb := World.block_lt_of_cell? w c hc
 have P0 : Blk ((w.alloc (.cells (arrv 24 S) 23)).alloc (.cells #[.int .i64 0, .int .i64 0, .int .i64 0, .int .i64 0, .int .i64 0, .int .i64 0, .int .i64 0, .int .i64 0, .int .i64 0, .int .i64 0, .int .i64 0, .int .i64 0, .int .i64 0, .int .i64 0, .int .i64 0, .int .i64 0, .int .i64 0, .int .i64 0, .int .i64 0, .int .i64 0, .int .i64 0, .int .i64 0, .int .i64 0, .int .i64 0] 23)) w.heap.size 23 24 S := (Blk.new w _ 24 _).alloc _
 have R0 : Blk ((w.alloc (.cells (arrv 24 S) 23)).alloc (.cells #[.int .i64 0, .int .i64 0, .int .i64 0, .int .i64 0, .int .i64 0, .int .i64 0, .int .i64 0, .int .i64 0, .int .i64 0, .int .i64 0, .int .i64 0, .int .i64 0, .int .i64 0, .int .i64 0, .int .i64 0, .int .i64 0, .int .i64 0, .int .i64 0, .int .i64 0, .int .i64 0, .int .i64 0, .int .i64 0, .int .i64 0, .int .i64 0] 23)) (w.heap.size + 1) 23 24 (fun _ => 0) := by rw [zvec24]; exact Blk.new1 w _ _ 24 _
 have U0 : Upd c h w ((w.alloc (.cells (arrv 24 S) 23)).alloc (.cells #[.int .i64 0, .int .i64 0, .int .i64 0, .int .i64 0, .int .i64 0, .int .i64 0, .int .i64 0, .int .i64 0, .int .i64 0, .int .i64 0, .int .i64 0, .int .i64 0, .int .i64 0, .int .i64 0, .int .i64 0, .int .i64 0, .int .i64 0, .int .i64 0, .int .i64 0, .int .i64 0, .int .i64 0, .int .i64 0, .int .i64 0, .int .i64 0] 23)) := Upd.then (Upd.refl hc) (by (repeat (first | with_reducible exact Below.refl _ _ | with_reducible apply Below.drew | (with_reducible refine below_drewN ?_ _) | (with_reducible refine Below.alloc ?_ (by (try simp) <;> omega) _) | (with_reducible refine Below.setCell ?_ (by (try simp) <;> omega) _))))
 have P0 := Lib.hid P0
 have R0 := Lib.hid R0
 have U0 := Lib.hid U0
 have HC := Lib.hid hc
 have HF := Lib.hid hf
 clear hc hf
 go_enter Tryz.func42, Tryz.ntmps42
 go_upto_region 1 with fail
 generalize (w.alloc (.cells (arrv 24 S) 23)).alloc (.cells #[.int .i64 0, .int .i64 0, .int .i64 0, .int .i64 0, .int .i64 0, .int .i64 0, .int .i64 0, .int .i64 0, .int .i64 0, .int .i64 0, .int .i64 0, .int .i64 0, .int .i64 0, .int .i64 0, .int .i64 0, .int .i64 0, .int .i64 0, .int .i64 0, .int .i64 0, .int .i64 0, .int .i64 0, .int .i64 0, .int .i64 0, .int .i64 0] 23) = W0 at *
 go_upto_region 2 with (first | (go_at_call 71; (refine (bounds_any _).mono ?_); rintro e w1 ⟨rfl, hb1⟩; have X1 : Blk (w1.alloc (.cells #[.int .i64 0, .int .i64 0, .int .i64 0, .int .i64 0, .int .i64 0, .int .i64 0, .int .i64 0, .int .i64 0, .int .i64 0, .int .i64 0, .int .i64 0, .int .i64 0, .int .i64 0, .int .i64 0, .int .i64 0, .int .i64 0, .int .i64 0, .int .i64 0, .int .i64 0, .int .i64 0, .int .i64 0, .int .i64 0, .int .i64 0, .int .i64 0] 111)) w1.heap.size 111 24 (fun _ => 0) := (by rw [zvec24]; exact Blk.new _ _ 24 _)) | (refine wpList_store_row rfl 111 _ _ rfl (w1.heap.size) _ rfl rfl 111 _ (X1) (ibox.trans (by rw [arrv_size])) (by rw [arrv_size, arrv_size]) (oneCell_arrv _ _) ?_))
 have hbx : w.heap.size + 1 < w1.heap.size := (R0.out.below hb1).lt
 have B1 : Below w1.heap.size w1 ((w1.alloc (.cells #[.int .i64 0, .int .i64 0, .int .i64 0, .int .i64 0, .int .i64 0, .int .i64 0, .int .i64 0, .int .i64 0, .int .i64 0, .int .i64 0, .int .i64 0, .int .i64 0, .int .i64 0, .int .i64 0, .int .i64 0, .int .i64 0, .int .i64 0, .int .i64 0, .int .i64 0, .int .i64 0, .int .i64 0, .int .i64 0, .int .i64 0, .int .i64 0] 111)).setRow w1.heap.size (arrv 24 boxF)) := below_row (by (repeat (first | with_reducible exact Below.refl _ _ | with_reducible apply Below.drew | (with_reducible refine below_drewN ?_ _) | (with_reducible refine Below.alloc ?_ (by (try simp) <;> omega) _) | (with_reducible refine Below.setCell ?_ (by (try simp) <;> omega) _)))) (Nat.le_refl _) _
 have S1 : Hid (ClmR c h w1.heap.size S w ((w1.alloc (.cells #[.int .i64 0, .int .i64 0, .int .i64 0, .int .i64 0, .int .i64 0, .int .i64 0, .int .i64 0, .int .i64 0, .int .i64 0, .int .i64 0, .int .i64 0, .int .i64 0, .int .i64 0, .int .i64 0, .int .i64 0, .int .i64 0, .int .i64 0, .int .i64 0, .int .i64 0, .int .i64 0, .int .i64 0, .int .i64 0, .int .i64 0, .int .i64 0] 111)).setRow w1.heap.size (arrv 24 boxF))) := Lib.hid
  ⟨(U0.out.then hb1).then B1, (P0.out.below hb1).below B1, (R0.out.below hb1).below B1, X1.setRow _⟩
 obtain ⟨bx, hbxe⟩ : ∃ bx, w1.heap.size = bx := ⟨_, rfl⟩
 generalize (w1.alloc (.cells #[.int .i64 0, .int .i64 0, .int .i64 0, .int .i64 0, .int .i64 0, .int .i64 0, .int .i64 0, .int .i64 0, .int .i64 0, .int .i64 0, .int .i64 0, .int .i64 0, .int .i64 0, .int .i64 0, .int .i64 0, .int .i64 0, .int .i64 0, .int .i64 0, .int .i64 0, .int .i64 0, .int .i64 0, .int .i64 0, .int .i64 0, .int .i64 0] 111)).setRow w1.heap.size (arrv 24 boxF) = W1 at *
 rw [hbxe] at S1 hbx ⊢
 clear hbxe X1 B1 hb1 P0 R0 U0
 go_wp2_with fail
 go_loopw [6] (fun i wr => ∃ k : Nat, k ≤ 20 ∧ i = .int .i64 (4 + (k : Int)) ∧ Hid (ClmR c (h || orB (clmP S) k) bx (clmI S k) w wr)) (fun i _ => 24 - (intOf i).toNat)
 case atStart =>
  refine ⟨0, by omega, rfl, ?_⟩
  rw [show (h || orB (clmP S) 0) = h from by simp [orB]]
  exact ⟨S1.out.upd, S1.out.blk.congr fun i hi => by simp only [clmI, clmF]; split <;> first | rfl | (rw [if_pos (by omega)]), S1.out.res, S1.out.box⟩
 case round =>
  obtain ⟨k, hk, rfl, R⟩ := hrel
  by_cases hlt : k < 20
  ·have rc := R.out.upd.cellc HC.out
   have rf := (R.out.upd.frozen hcb).trans HF.out
   have b0 := R.out.blk.cell (i := 4 + k) (by omega)
   have x0 := R.out.box.cell (i := 4 + k) (by omega)
   have hv : clmI S k (4 + k) = S (4 + k) := by simp [clmI]
   rw [hv] at b0
   have hM := boxF_bd (4 + k)
   have n0 := ne_of_cells rc b0
   have n1 := ne_of_cells rc x0
   obtain ⟨M, hMe⟩ : ∃ M, boxF (4 + k) = M := ⟨_, rfl⟩
   rw [hMe] at x0 hM
   have hneg := neg_in M (by omega)
   have d1 : decide (4 + (k : Int) < 24) = true := by simp; omega
   have k0 : (0 : Int) ≤ 4 + (k : Int) := by omega
   have k1 : 4 + (k : Int) < 24 := by omega
   have k2 : (4 + (k : Int)).toNat = 4 + k := by omega
   have CL := Lib.hid (fun w rc rf => clamp_any c (h || orB (clmP S) k) (S (4 + k)) (-M) M w rc rf)
   have HME := Lib.hid hMe
   clear hv hMe hM
   go_upto_region 5 with fail
   refine wp_region_M (fun w' => w'.cell? ⟨w.heap.size, 4 + k, none⟩ = some (.int .i64 (S (4 + k))) ∧ w'.cell? ⟨bx, 4 + k, none⟩ = some (.int .i64 M)) 14 (by kernel_rfl) ?_ (fun hHeld => ?_)
   ·exact ⟨b0, x0⟩
   refine tk 0 ?_
   (try simp only [Act.put, nA, nB, nC])
   refine tk 1 ?_
   (try simp only [Act.put, nA, nB, nC])
   refine tk 2 ?_
   (try simp only [Act.put, nA, nB, nC])
   refine tk 3 ?_
   (try simp only [Act.put, nA, nB, nC])
   refine tk 4 ?_
   (try simp only [Act.put, nA, nB, nC])
   refine tk 5 ?_
   (try simp only [Act.put, nA, nB, nC])
   refine tk 6 ?_
   (try simp only [Act.put, nA, nB, nC])
   refine tk 7 ?_
   (try simp only [Act.put, nA, nB, nC])
   refine tk 8 ?_
   (try simp only [Act.put, nA, nB, nC])
   refine tk 9 ?_
   (try simp only [Act.put, nA, nB, nC])
   refine tk 10 ?_
   (try simp only [Act.put, nA, nB, nC])
   refine tk 11 ?_
   (try simp only [Act.put, nA, nB, nC])
   refine wpAnyM_oneS 12 rfl (by kernel_rfl) (fun K hK => ?_)
   go_simp
   (refine (CL.out wr.drew rc rf).mono ?_); rintro e w2 ⟨rfl, hw2⟩; have U2 : Upd c (h || orB (clmP S) k || clmP S k) wr w2 := (by rw [← hw2, show clmP S k = clampH (S (4 + k)) (-M) M from by rw [← HME.out]; rfl]; exact Upd.after (Below.drew (Below.refl _ _)) (Upd.set c _ _)); have kp := keep2 U2 b0 x0 n0 n1; have S2 := Lib.hid (R.out.upd' hcb (by omega) U2); have kz := S2.out.blk.free (4 + k); clear U2 hw2
   (try dsimp only)
   (try simp only [Act.put, nA, nB, nC])
   clear hHeld
   refine hK.out _ _ ?_ (fun hHeld => ?_)
   ·exact kp
   clear hK K
   (try simp only [Act.put, nA, nB, nC])
   refine tk 13 ?_
   (try simp only [Act.put, nA, nB, nC])
   refine wpAnyM_one 14 rfl (by kernel_rfl) (fun K hK => ?_)
   go_simp
   refine hK.out _ _ (.inl (by kernel_rfl)) (fun _ => ?_)
   clear hK K
   (try simp only [Act.put, nA, nB, nC])
   refine wpAnyM_done (by kernel_rfl) ?_ _
   clear hneg b0 x0 rc rf n0 n1 CL R
   go_wp2_with fail
   go_roundw
   case rel =>
    refine ⟨k + 1, by omega, by congr 1 <;> omega, ⟨?_, ?_, S2.out.res.other (by simp) _, S2.out.box.other (by simp; omega) _⟩⟩
    ·rw [show (h || orB (clmP S) (k + 1)) = (h || orB (clmP S) k || clmP S k) from by simp [orB, Bool.or_assoc]]
     exact S2.out.upd.setCell (Nat.le_refl _) _
    ·refine (S2.out.blk.set _ _).congr fun i hi => ?_
     simp only [Go.Proofs.YtgfklheepkgedaaGreat.upd, clmI]
     by_cases h1 : i = 4 + k
     ·subst h1; rw [if_pos rfl, if_pos (by omega)]; simp only [clmF]; rw [if_neg (by omega), HME.out]
     ·rw [if_neg h1]; split <;> split <;> first | rfl | omega
   case measure => simp [intOf]; omega
  ·have hk20 : k = 20 := by omega
   subst hk20
   have B0 := R.out.blk
   have B1 := R.out.res
   have U := Lib.hid R.out.upd
   clear R hlt hk
   rw [show (4 + ((20 : Nat) : Int)) = 24 from rfl]
   go_wp2_with (first | (refine wpList_load_row rfl 23 _ rfl (w.heap.size) rfl 23 _ (0, 0) _ (B0) Tryz.underlying23 rfl (ist.trans (by rw [arrv_size])) ?_) | (refine wpList_store_row rfl 23 _ _ rfl (w.heap.size + 1) _ rfl rfl 23 _ (B1) (ist.trans (by rw [arrv_size])) (by rw [arrv_size, arrv_size]) (oneCell_arrv _ _) ?_))
   refine bodyPost_ret (results_cell_row Tryz.results42 _ _ (w.heap.size + 1) 23 (arrv 24 (clmI S 20)) (0, 0) _ rfl (setRow_heap _ _ _ _ _ _ B1) Tryz.underlying23 rfl (ist.trans (by rw [arrv_size]))) rfl ⟨?_, ?_⟩
   ·rw [arrv_congr (g := clmF S) fun i hi => by simp only [clmI]; rw [if_pos (by omega)]]
   ·exact U.out.then' (below_row (Below.refl _ _) (by omega) _)
end Go.Proofs.YtgfklheepkgedaaGreat
/- A slice of int64 that a call builds by append: what it owns. -/
namespace Go.Proofs.YtgfklheepkgedaaGreat
open Go.RowKit
def ints (n : Nat) (L : Nat → Int) : List Value := (List.range n).map fun i => .int .i64 (L i)
theorem ints_length (n : Nat) (L : Nat → Int) : (ints n L).length = n := by simp [ints]
theorem ints_succ (n : Nat) (L : Nat → Int) : ints (n + 1) L = ints n L ++ [.int .i64 (L n)] := by simp [ints, List.range_succ]
theorem ints_get {n : Nat} {L : Nat → Int} {i : Nat} (h : i < n) : (ints n L)[i]? = some (.int .i64 (L i)) := by simp [ints, h]
theorem ints_congr {n : Nat} {L M : Nat → Int} (h : ∀ i, i < n → L i = M i) : ints n L = ints n M := by
 apply List.ext_getElem?
 intro i
 by_cases hi : i < n
 ·rw [ints_get hi, ints_get hi, h i hi]
 ·rw [List.getElem?_eq_none (by rw [ints_length]; omega), List.getElem?_eq_none (by rw [ints_length]; omega)]
/-- v is a slice of n numbers L in a block of its own, from block B on. -/
def Own (w : World) (B T : Nat) (v : Value) (n : Nat) (L : Nat → Int) : Prop := w.ownsRow B T 1 v n (ints n L)
theorem Own.nil (w : World) (B T : Nat) (L : Nat → Int) : Own w B T (.slice none 0 0) 0 L := World.ownsRow_nil w B T 1
theorem Own.congr {w : World} {B T : Nat} {v : Value} {n : Nat} {L M : Nat → Int} (h : Own w B T v n L) (e : ∀ i, i < n → L i = M i) : Own w B T v n M := by
 unfold Own at *; rwa [← ints_congr e]
theorem Own.kept {w w' : World} {B T : Nat} {v : Value} {n : Nat} {L : Nat → Int} (h : Own w B T v n L) (hs : ∀ k, B ≤ k → k < w.heap.size → some k = v.ownBlock → w'.heap[k]? = w.heap[k]?) : Own w' B T v n L := by
 refine ⟨h.1, ?_⟩
 rcases h.2 with hn | ⟨g, cap, cur, rfl, hb, hgg, rest⟩
 ·exact .inl hn
 ·refine .inr ⟨g, cap, cur, rfl, hb, ?_, rest⟩
  rw [hs g hb (Array.getElem?_eq_some_iff.1 hgg).1 rfl]
  exact hgg
theorem Own.below {w w' : World} {B T : Nat} {v : Value} {n : Nat} {L : Nat → Int} (h : Own w B T v n L) (b : Below w.heap.size w w') : Own w' B T v n L := h.kept fun k _ hk _ => b.block k hk
theorem Own.drew {w : World} {B T : Nat} {v : Value} {n : Nat} {L : Nat → Int} (h : Own w B T v n L) : Own w.drew B T v n L := h
theorem Own.alloc {w : World} {B T : Nat} {v : Value} {n : Nat} {L : Nat → Int} (h : Own w B T v n L) (o : Obj) : Own (w.alloc o) B T v n L := h.below ((Below.refl _ _).alloc (Nat.le_refl _) o)
theorem Own.upd {w w' : World} {B T : Nat} {v : Value} {n : Nat} {L : Nat → Int} (h : Own w B T v n L) {c : Addr} {f : Bool} (u : Upd c f w w') (hc : c.block < B) : Own w' B T v n L := h.kept fun k hB hk _ => u.block hk (by omega)
theorem Own.grown {w w' : World} {B T : Nat} {v : Value} {n : Nat} {L : Nat → Int} (h : Own w B T v n L) {r : Option Nat} (g : w.grownBy w' r) (hn : ∀ k, v.ownBlock = some k → r ≠ some k) : Own w' B T v n L :=
 h.kept fun k _ hk e => g.block k hk (fun e2 => hn k e.symm e2.symm)
theorem Own.raise {w : World} {B B' T : Nat} {v : Value} {n : Nat} {L : Nat → Int} (h : Own w B T v n L) (hb : B' ≤ B) : Own w B' T v n L := by
 refine ⟨h.1, ?_⟩
 rcases h.2 with hn | ⟨g, cap, cur, rfl, hb2, hgg, rest⟩
 ·exact .inl hn
 ·exact .inr ⟨g, cap, cur, rfl, by omega, hgg, rest⟩
theorem Own.other {w : World} {B T : Nat} {v : Value} {n : Nat} {L : Nat → Int} (h : Own w B T v n L) {a : Addr} (ha : v.ownBlock ≠ some a.block) (x : Value) : Own (w.setCell a x) B T v n L :=
 h.kept fun k _ _ e => heap_setCell_other w a k x (fun e2 => ha (by rw [← e, e2]))
/-- As a slice: its numbers. -/
theorem Own.slc {w : World} {B T : Nat} {v : Value} {n : Nat} {L : Nat → Int} (h : Own w B T v n L) (hn : 0 < n) :
  ∃ g cp, v = .slice (some ⟨g, 0, none⟩) n cp ∧ B ≤ g ∧ g < w.heap.size ∧ ∀ i, i < n → w.cell? ⟨g, 0 + i, none⟩ = some (.int .i64 (L i)) := by
 rcases h.2 with ⟨_, h0⟩ | ⟨g, cap, cur, rfl, hb, hgg, h1, h2, h3, h4⟩
 ·omega
 ·refine ⟨g, cap, rfl, hb, (Array.getElem?_eq_some_iff.1 hgg).1, fun i hi => ?_⟩
  rw [Nat.zero_add, cell_of_row w g i cur T (0, 0) hgg]
  have := ints_get (L := L) hi
  rw [← h4, List.getElem?_take] at this
  split at this
  ·simpa using this
  ·cases this
/-- Whatever is behind an append: below the first own block nothing has turned. -/
theorem below_grown {B : Nat} {w0 w w' : World} {r : Option Nat} (b : Below B w0 w) (g : w.grownBy w' r) (hr : ∀ k, r = some k → B ≤ k) (hB : B ≤ w.heap.size) : Below B w0 w' :=
 b.trans ⟨g.os, g.tape, g.output, g.size, fun k hk => by
  exact g.block k (by omega) (fun e => by have := hr k e.symm; omega)⟩
end Go.Proofs.YtgfklheepkgedaaGreat
/- Contract of wide.Add at four numbers; append of a W to a slice of the call's own. -/
namespace Go.Proofs.YtgfklheepkgedaaGreat
open Go.RowKit
set_option maxRecDepth 100000
set_option maxHeartbeats 2000000 in
theorem wadd4_any (A B C D S2 S3 S4 : Int) (p c : Nat) (w : World) (rA : -1329227995784915872903807060280344576 ≤ A ∧ A ≤ 1329227995784915872903807060280344576)
  (rB : -1329227995784915872903807060280344576 ≤ B ∧ B ≤ 1329227995784915872903807060280344576) (rC : -1329227995784915872903807060280344576 ≤ C ∧ C ≤ 1329227995784915872903807060280344576) (rD : -1329227995784915872903807060280344576 ≤ D ∧ D ≤ 1329227995784915872903807060280344576)
  (h2 : A + B = S2) (h3 : S2 + C = S3) (h4 : S3 + D = S4)
  (c0 : w.cell? ⟨p, 0, none⟩ = some (.int .i64 (hi64 A))) (c1 : w.cell? ⟨p, 1, none⟩ = some (.int .u64 (lo64 A)))
  (c2 : w.cell? ⟨p, 2, none⟩ = some (.int .i64 (hi64 B))) (c3 : w.cell? ⟨p, 3, none⟩ = some (.int .u64 (lo64 B)))
  (c4 : w.cell? ⟨p, 4, none⟩ = some (.int .i64 (hi64 C))) (c5 : w.cell? ⟨p, 5, none⟩ = some (.int .u64 (lo64 C)))
  (c6 : w.cell? ⟨p, 6, none⟩ = some (.int .i64 (hi64 D))) (c7 : w.cell? ⟨p, 7, none⟩ = some (.int .u64 (lo64 D))) :
  Calls Tryz.prog 79 #[.slice (some ⟨p, 0, none⟩) 4 c] w fun e w' =>
   e = .returned (.tuple #[.agg #[.int .i64 (hi64 S4), .int .u64 (lo64 S4)], .bool true]) ∧ Below w.heap.size w w' := by
 have hp : p < w.heap.size := World.block_lt_of_cell? w _ c0
 have A1 := Lib.hid (fun w => add_any 0 A A w (by decide) (by decide) (by omega) (by omega) (by omega) (by omega) (by omega))
 have A2 := Lib.hid (fun w => add_any A B S2 w (by omega) (by omega) (by omega) (by omega) h2 (by omega) (by omega))
 have A3 := Lib.hid (fun w => add_any S2 C S3 w (by omega) (by omega) (by omega) (by omega) h3 (by omega) (by omega))
 have A4 := Lib.hid (fun w => add_any S3 D S4 w (by omega) (by omega) (by omega) (by omega) h4 (by omega) (by omega))
 clear rA rB rC rD h2 h3 h4
 go_enter Tryz.func79, Tryz.ntmps79
 go_wp2_with fail
 refine wp_loop_rounds 5 ?_
 rw [rounds_succ]
 go_wp2_with fail
 refine (A1.out _).mono ?_; rintro e w1 ⟨rfl, hb1⟩
 have hpz : p < w.heap.size + 1 := by omega
 have hb1z0 : w.heap.size < w1.heap.size := by have := hb1.size; (try simp at this); omega
 have hb1z1 : w.heap.size + 1 < w1.heap.size := by have := hb1.size; (try simp at this); omega
 have hb1z2 : w.heap.size + 1 + 1 < w1.heap.size := by have := hb1.size; (try simp at this); omega
 have hb1c0_0 := hb1.cell (p := ⟨w.heap.size, 0, none⟩) (by (try simp); (try omega))
 have hb1f0_0 := hb1.frozen (p := ⟨w.heap.size, 0, none⟩) (by (try simp); (try omega))
 simp [go_sem, *] at hb1c0_0 hb1f0_0
 have hb1c0_1 := hb1.cell (p := ⟨w.heap.size, 1, none⟩) (by (try simp); (try omega))
 have hb1f0_1 := hb1.frozen (p := ⟨w.heap.size, 1, none⟩) (by (try simp); (try omega))
 simp [go_sem, *] at hb1c0_1 hb1f0_1
 have hb1c1_0 := hb1.cell (p := ⟨w.heap.size + 1, 0, none⟩) (by (try simp); (try omega))
 have hb1f1_0 := hb1.frozen (p := ⟨w.heap.size + 1, 0, none⟩) (by (try simp); (try omega))
 simp [go_sem, *] at hb1c1_0 hb1f1_0
 have hb1c1_1 := hb1.cell (p := ⟨w.heap.size + 1, 1, none⟩) (by (try simp); (try omega))
 have hb1f1_1 := hb1.frozen (p := ⟨w.heap.size + 1, 1, none⟩) (by (try simp); (try omega))
 simp [go_sem, *] at hb1c1_1 hb1f1_1
 have hb1cp_0 := hb1.cell (p := ⟨p, 0, none⟩) (by (try simp); (try omega))
 have hb1fp_0 := hb1.frozen (p := ⟨p, 0, none⟩) (by (try simp); (try omega))
 simp [go_sem, *] at hb1cp_0 hb1fp_0
 have hb1cp_1 := hb1.cell (p := ⟨p, 1, none⟩) (by (try simp); (try omega))
 have hb1fp_1 := hb1.frozen (p := ⟨p, 1, none⟩) (by (try simp); (try omega))
 simp [go_sem, *] at hb1cp_1 hb1fp_1
 have hb1cp_2 := hb1.cell (p := ⟨p, 2, none⟩) (by (try simp); (try omega))
 have hb1fp_2 := hb1.frozen (p := ⟨p, 2, none⟩) (by (try simp); (try omega))
 simp [go_sem, *] at hb1cp_2 hb1fp_2
 have hb1cp_3 := hb1.cell (p := ⟨p, 3, none⟩) (by (try simp); (try omega))
 have hb1fp_3 := hb1.frozen (p := ⟨p, 3, none⟩) (by (try simp); (try omega))
 simp [go_sem, *] at hb1cp_3 hb1fp_3
 have hb1cp_4 := hb1.cell (p := ⟨p, 4, none⟩) (by (try simp); (try omega))
 have hb1fp_4 := hb1.frozen (p := ⟨p, 4, none⟩) (by (try simp); (try omega))
 simp [go_sem, *] at hb1cp_4 hb1fp_4
 have hb1cp_5 := hb1.cell (p := ⟨p, 5, none⟩) (by (try simp); (try omega))
 have hb1fp_5 := hb1.frozen (p := ⟨p, 5, none⟩) (by (try simp); (try omega))
 simp [go_sem, *] at hb1cp_5 hb1fp_5
 have hb1cp_6 := hb1.cell (p := ⟨p, 6, none⟩) (by (try simp); (try omega))
 have hb1fp_6 := hb1.frozen (p := ⟨p, 6, none⟩) (by (try simp); (try omega))
 simp [go_sem, *] at hb1cp_6 hb1fp_6
 have hb1cp_7 := hb1.cell (p := ⟨p, 7, none⟩) (by (try simp); (try omega))
 have hb1fp_7 := hb1.frozen (p := ⟨p, 7, none⟩) (by (try simp); (try omega))
 simp [go_sem, *] at hb1cp_7 hb1fp_7
 have hp1 : p < w1.heap.size := by omega
 clear c0 c1 c2 c3 c4 c5 c6 c7
 go_wp2_with fail
 rw [rounds_succ]
 go_wp2_with fail
 refine (A2.out _).mono ?_; rintro e w2 ⟨rfl, hb2⟩
 have hb2z0 : w.heap.size < w2.heap.size := by have := hb2.size; (try simp at this); omega
 have hb2z1 : w.heap.size + 1 < w2.heap.size := by have := hb2.size; (try simp at this); omega
 have hb2z2 : w.heap.size + 1 + 1 < w2.heap.size := by have := hb2.size; (try simp at this); omega
 have hb2c0_0 := hb2.cell (p := ⟨w.heap.size, 0, none⟩) (by (try simp); (try omega))
 have hb2f0_0 := hb2.frozen (p := ⟨w.heap.size, 0, none⟩) (by (try simp); (try omega))
 simp [go_sem, *] at hb2c0_0 hb2f0_0
 have hb2c0_1 := hb2.cell (p := ⟨w.heap.size, 1, none⟩) (by (try simp); (try omega))
 have hb2f0_1 := hb2.frozen (p := ⟨w.heap.size, 1, none⟩) (by (try simp); (try omega))
 simp [go_sem, *] at hb2c0_1 hb2f0_1
 have hb2c1_0 := hb2.cell (p := ⟨w.heap.size + 1, 0, none⟩) (by (try simp); (try omega))
 have hb2f1_0 := hb2.frozen (p := ⟨w.heap.size + 1, 0, none⟩) (by (try simp); (try omega))
 simp [go_sem, *] at hb2c1_0 hb2f1_0
 have hb2c1_1 := hb2.cell (p := ⟨w.heap.size + 1, 1, none⟩) (by (try simp); (try omega))
 have hb2f1_1 := hb2.frozen (p := ⟨w.heap.size + 1, 1, none⟩) (by (try simp); (try omega))
 simp [go_sem, *] at hb2c1_1 hb2f1_1
 have hb2cp_0 := hb2.cell (p := ⟨p, 0, none⟩) (by (try simp); (try omega))
 have hb2fp_0 := hb2.frozen (p := ⟨p, 0, none⟩) (by (try simp); (try omega))
 simp [go_sem, *] at hb2cp_0 hb2fp_0
 have hb2cp_1 := hb2.cell (p := ⟨p, 1, none⟩) (by (try simp); (try omega))
 have hb2fp_1 := hb2.frozen (p := ⟨p, 1, none⟩) (by (try simp); (try omega))
 simp [go_sem, *] at hb2cp_1 hb2fp_1
 have hb2cp_2 := hb2.cell (p := ⟨p, 2, none⟩) (by (try simp); (try omega))
 have hb2fp_2 := hb2.frozen (p := ⟨p, 2, none⟩) (by (try simp); (try omega))
 simp [go_sem, *] at hb2cp_2 hb2fp_2
 have hb2cp_3 := hb2.cell (p := ⟨p, 3, none⟩) (by (try simp); (try omega))
 have hb2fp_3 := hb2.frozen (p := ⟨p, 3, none⟩) (by (try simp); (try omega))
 simp [go_sem, *] at hb2cp_3 hb2fp_3
 have hb2cp_4 := hb2.cell (p := ⟨p, 4, none⟩) (by (try simp); (try omega))
 have hb2fp_4 := hb2.frozen (p := ⟨p, 4, none⟩) (by (try simp); (try omega))
 simp [go_sem, *] at hb2cp_4 hb2fp_4
 have hb2cp_5 := hb2.cell (p := ⟨p, 5, none⟩) (by (try simp); (try omega))
 have hb2fp_5 := hb2.frozen (p := ⟨p, 5, none⟩) (by (try simp); (try omega))
 simp [go_sem, *] at hb2cp_5 hb2fp_5
 have hb2cp_6 := hb2.cell (p := ⟨p, 6, none⟩) (by (try simp); (try omega))
 have hb2fp_6 := hb2.frozen (p := ⟨p, 6, none⟩) (by (try simp); (try omega))
 simp [go_sem, *] at hb2cp_6 hb2fp_6
 have hb2cp_7 := hb2.cell (p := ⟨p, 7, none⟩) (by (try simp); (try omega))
 have hb2fp_7 := hb2.frozen (p := ⟨p, 7, none⟩) (by (try simp); (try omega))
 simp [go_sem, *] at hb2cp_7 hb2fp_7
 have hp2 : p < w2.heap.size := by have := hb2.size; (try simp at this); omega
 go_wp2_with fail
 rw [rounds_succ]
 go_wp2_with fail
 refine (A3.out _).mono ?_; rintro e w3 ⟨rfl, hb3⟩
 have hb3z0 : w.heap.size < w3.heap.size := by have := hb3.size; (try simp at this); omega
 have hb3z1 : w.heap.size + 1 < w3.heap.size := by have := hb3.size; (try simp at this); omega
 have hb3z2 : w.heap.size + 1 + 1 < w3.heap.size := by have := hb3.size; (try simp at this); omega
 have hb3c0_0 := hb3.cell (p := ⟨w.heap.size, 0, none⟩) (by (try simp); (try omega))
 have hb3f0_0 := hb3.frozen (p := ⟨w.heap.size, 0, none⟩) (by (try simp); (try omega))
 simp [go_sem, *] at hb3c0_0 hb3f0_0
 have hb3c0_1 := hb3.cell (p := ⟨w.heap.size, 1, none⟩) (by (try simp); (try omega))
 have hb3f0_1 := hb3.frozen (p := ⟨w.heap.size, 1, none⟩) (by (try simp); (try omega))
 simp [go_sem, *] at hb3c0_1 hb3f0_1
 have hb3c1_0 := hb3.cell (p := ⟨w.heap.size + 1, 0, none⟩) (by (try simp); (try omega))
 have hb3f1_0 := hb3.frozen (p := ⟨w.heap.size + 1, 0, none⟩) (by (try simp); (try omega))
 simp [go_sem, *] at hb3c1_0 hb3f1_0
 have hb3c1_1 := hb3.cell (p := ⟨w.heap.size + 1, 1, none⟩) (by (try simp); (try omega))
 have hb3f1_1 := hb3.frozen (p := ⟨w.heap.size + 1, 1, none⟩) (by (try simp); (try omega))
 simp [go_sem, *] at hb3c1_1 hb3f1_1
 have hb3cp_0 := hb3.cell (p := ⟨p, 0, none⟩) (by (try simp); (try omega))
 have hb3fp_0 := hb3.frozen (p := ⟨p, 0, none⟩) (by (try simp); (try omega))
 simp [go_sem, *] at hb3cp_0 hb3fp_0
 have hb3cp_1 := hb3.cell (p := ⟨p, 1, none⟩) (by (try simp); (try omega))
 have hb3fp_1 := hb3.frozen (p := ⟨p, 1, none⟩) (by (try simp); (try omega))
 simp [go_sem, *] at hb3cp_1 hb3fp_1
 have hb3cp_2 := hb3.cell (p := ⟨p, 2, none⟩) (by (try simp); (try omega))
 have hb3fp_2 := hb3.frozen (p := ⟨p, 2, none⟩) (by (try simp); (try omega))
 simp [go_sem, *] at hb3cp_2 hb3fp_2
 have hb3cp_3 := hb3.cell (p := ⟨p, 3, none⟩) (by (try simp); (try omega))
 have hb3fp_3 := hb3.frozen (p := ⟨p, 3, none⟩) (by (try simp); (try omega))
 simp [go_sem, *] at hb3cp_3 hb3fp_3
 have hb3cp_4 := hb3.cell (p := ⟨p, 4, none⟩) (by (try simp); (try omega))
 have hb3fp_4 := hb3.frozen (p := ⟨p, 4, none⟩) (by (try simp); (try omega))
 simp [go_sem, *] at hb3cp_4 hb3fp_4
 have hb3cp_5 := hb3.cell (p := ⟨p, 5, none⟩) (by (try simp); (try omega))
 have hb3fp_5 := hb3.frozen (p := ⟨p, 5, none⟩) (by (try simp); (try omega))
 simp [go_sem, *] at hb3cp_5 hb3fp_5
 have hb3cp_6 := hb3.cell (p := ⟨p, 6, none⟩) (by (try simp); (try omega))
 have hb3fp_6 := hb3.frozen (p := ⟨p, 6, none⟩) (by (try simp); (try omega))
 simp [go_sem, *] at hb3cp_6 hb3fp_6
 have hb3cp_7 := hb3.cell (p := ⟨p, 7, none⟩) (by (try simp); (try omega))
 have hb3fp_7 := hb3.frozen (p := ⟨p, 7, none⟩) (by (try simp); (try omega))
 simp [go_sem, *] at hb3cp_7 hb3fp_7
 have hp3 : p < w3.heap.size := by have := hb3.size; (try simp at this); omega
 go_wp2_with fail
 rw [rounds_succ]
 go_wp2_with fail
 refine (A4.out _).mono ?_; rintro e w4 ⟨rfl, hb4⟩
 have hb4z0 : w.heap.size < w4.heap.size := by have := hb4.size; (try simp at this); omega
 have hb4z1 : w.heap.size + 1 < w4.heap.size := by have := hb4.size; (try simp at this); omega
 have hb4z2 : w.heap.size + 1 + 1 < w4.heap.size := by have := hb4.size; (try simp at this); omega
 have hb4c0_0 := hb4.cell (p := ⟨w.heap.size, 0, none⟩) (by (try simp); (try omega))
 have hb4f0_0 := hb4.frozen (p := ⟨w.heap.size, 0, none⟩) (by (try simp); (try omega))
 simp [go_sem, *] at hb4c0_0 hb4f0_0
 have hb4c0_1 := hb4.cell (p := ⟨w.heap.size, 1, none⟩) (by (try simp); (try omega))
 have hb4f0_1 := hb4.frozen (p := ⟨w.heap.size, 1, none⟩) (by (try simp); (try omega))
 simp [go_sem, *] at hb4c0_1 hb4f0_1
 have hb4c1_0 := hb4.cell (p := ⟨w.heap.size + 1, 0, none⟩) (by (try simp); (try omega))
 have hb4f1_0 := hb4.frozen (p := ⟨w.heap.size + 1, 0, none⟩) (by (try simp); (try omega))
 simp [go_sem, *] at hb4c1_0 hb4f1_0
 have hb4c1_1 := hb4.cell (p := ⟨w.heap.size + 1, 1, none⟩) (by (try simp); (try omega))
 have hb4f1_1 := hb4.frozen (p := ⟨w.heap.size + 1, 1, none⟩) (by (try simp); (try omega))
 simp [go_sem, *] at hb4c1_1 hb4f1_1
 go_wp2_with fail
 rw [rounds_succ]
 go_wp2_with fail
 simp [bodyPost, results, Tryz.results79, go_sem, hb4c0_0, hb4c0_1, hb4z0]
 (repeat (first | with_reducible exact Below.refl _ _ | with_reducible assumption | with_reducible apply Below.drew | (with_reducible refine below_drewN ?_ _) | (with_reducible refine Below.alloc ?_ (by (try simp) <;> omega) _) | (with_reducible refine Below.setCell ?_ (by (try simp) <;> omega) _) | (with_reducible refine Below.trans ?_ (Below.mono (by assumption) (by (try simp) <;> omega)))))
end Go.Proofs.YtgfklheepkgedaaGreat
/- Plain numbers: is a quaternion a Unit's? No program. -/
namespace Go.Proofs.YtgfklheepkgedaaGreat
def sqA (A : Nat → Int) : Nat → Int := fun i => A i * A i
def sum4 (A : Nat → Int) : Int := A 0 * A 0 + A 1 * A 1 + A 2 * A 2 + A 3 * A 3
def inQ (a : Int) : Bool := decide (-1073741840 ≤ a) && decide (a ≤ 1073741840)
def inQs (A : Nat → Int) : Nat → Bool | 0 => true | n + 1 => inQs A n && inQ (A n)
def unitB (A : Nat → Int) : Bool := inQs A 4 && (decide (-4294967296 ≤ sum4 A - 1152921504606846976) && decide (sum4 A - 1152921504606846976 ≤ 4294967296))
theorem inQs_iff {A : Nat → Int} : ∀ {n : Nat}, inQs A n = true ↔ ∀ i, i < n → -1073741840 ≤ A i ∧ A i ≤ 1073741840
 | 0 => by simp [inQs]
 | n + 1 => by
  simp only [inQs, Bool.and_eq_true, inQs_iff, inQ, decide_eq_true_eq]
  constructor
  ·rintro ⟨h, h1⟩ i hi
   by_cases e : i = n
   ·subst e; exact h1
   ·exact h i (by omega)
  ·intro h
   exact ⟨fun i hi => h i (by omega), h n (by omega)⟩
theorem inQs_no {A : Nat → Int} {n m : Nat} (h : inQs A n = false) (hn : n ≤ m) : inQs A m = false := by
  induction m with
  | zero => have : n = 0 := by omega
            subst this; exact h
  | succ m ih =>
    by_cases e : n = m + 1
    · subst e; exact h
    · simp [inQs, ih (by omega)]
theorem unitB_no {A : Nat → Int} {n : Nat} (h : inQs A n = false) (hn : n ≤ 4) : unitB A = false := by
 unfold unitB; rw [inQs_no h hn, Bool.false_and]
theorem sq_bd {a : Int} (h : inQ a = true) : 0 ≤ a * a ∧ a * a ≤ 1152921538966585600 := by
 simp only [inQ, Bool.and_eq_true, decide_eq_true_eq] at h
 exact ⟨sq_nonneg a, sq_le (B := 1073741840) (by decide) h.1 h.2⟩
theorem sqA_bd {A : Nat → Int} (h : inQs A 4 = true) (i : Nat) (hi : i < 4) : 0 ≤ A i * A i ∧ A i * A i ≤ 1152921538966585600 := by
 have := inQs_iff.1 h i hi
 exact sq_bd (by simp only [inQ, Bool.and_eq_true, decide_eq_true_eq]; exact this)
/-- The size of a number, at most Max. -/
def absV (a : Int) : Int := if 1152921504606846976 ≤ a ∨ a ≤ -1152921504606846976 then 1152921504606846976 else if a < 0 then -a else a
theorem absV_in (a : Int) : decide (1073741840 < absV a) = !inQ a := by
 unfold absV inQ
 rw [Bool.eq_iff_iff]
 simp only [decide_eq_true_eq, Bool.not_eq_true', Bool.and_eq_false_iff, decide_eq_false_iff_not]
 split
 ·omega
 ·split <;> omega
end Go.Proofs.YtgfklheepkgedaaGreat
