/- Contracts of the program's functions and plain laws, part 19: they hold for all arguments. -/
import Derived.Test.YtgfklheepkgedaaGreatQ17
import Derived.Test.YtgfklheepkgedaaGreatQ18
import Derived.Test.YtgfklheepkgedaaGreatQ13
import Derived.Test.YtgfklheepkgedaaGreatQ11
import Derived.Test.YtgfklheepkgedaaGreatQ06
import Derived.Test.YtgfklheepkgedaaGreatQ07
import Derived.Test.YtgfklheepkgedaaGreatQ05
/- The reference's Cos, and its rotation of a heading. -/
namespace Go.Proofs.YtgfklheepkgedaaGreat
open Go.RowKit
set_option maxRecDepth 100000
theorem rcos_any (c : Addr) (h : Bool) (a : Int) (w : World) (hc : w.cell? c = some (.bool h)) (hf : w.frozen? c = false) :
  Calls Tryz.prog 63 #[.pointer (some c), .int .i64 a] w fun e w' => e = .returned (.int .i64 (cosV a)) ∧ Upd c (h || cosH a) w w' := by
 have b := wrpV_bd a
 have SC := rsin_any c h (1686629713 + wrpV a) w hc hf
 have EV := Lib.hid (show cosV a = sinV (1686629713 + wrpV a) ∧ cosH a = sinH (1686629713 + wrpV a) from ⟨rfl, rfl⟩)
 have WC := Lib.hid (fun (x : World) => rwrap_any a x)
 obtain ⟨r, hr⟩ : ∃ x, wrpV a = x := ⟨_, rfl⟩
 rw [hr] at SC EV WC b
 have e1 : IntKind.i64.wrap (1686629713 + r) = 1686629713 + r := IntWalk.i64_in _ (by omega)
 have SC := Lib.hid SC
 clear hr hc hf
 go_enter Tryz.func63, Tryz.ntmps63
 go_wp2_with (first | (go_at_call 62; (refine (WC.out _).mono ?_); rintro e w2 ⟨rfl, rfl⟩) | (go_at_call 64; (try rw [e1]); (refine SC.out.mono ?_); rintro e w1 ⟨rfl, hu1⟩))
 go_ret
 rw [EV.out.1, EV.out.2]
 exact ⟨rfl, hu1⟩
open Go in
theorem run_build_rq4 {o : Oper} {ev : Operand → Value} {w : World} (x u : Operand) (ho : o.op = .build 43 #[(0, x), (1, .const (.int .i64 0)), (2, .const (.int .i64 0)), (3, u)]) {a d : Int} (hx : ev x = .int .i64 a) (hu : ev u = .int .i64 d) (hk : ev (.const (.int .i64 0)) = .int .i64 0 := by rfl) :
  (execOp ev o).run Tryz.prog w = .ok (.value (.agg (arrv 4 (q4 a 0 0 d)))) w := by
 unfold execOp
 simp only [ho, List.map_toArray, List.map_cons, List.map_nil, hx, hu, hk]
 kernel_rfl
/-- The blocks of astrolaberef4.FromYaw. -/
structure RfyR (c : Addr) (h : Bool) (w wr : World) : Prop where
 upd : Upd c h w wr
 r : Blk wr w.heap.size 43 4 (fun _ => 0)
 cell : wr.cell? c = some (.bool h)
 free : wr.frozen? c = false
 cb : c.block < w.heap.size
theorem RfyR.upd' {c : Addr} {h h' : Bool} {w wr w' : World} (s : RfyR c h w wr) (u : Upd c h' wr w') : RfyR c h' w w' := by
 have hcb := s.cb
 exact ⟨s.upd.trans u, s.r.upd u (by omega), u.cellc s.cell, (u.frozen (World.block_lt_of_cell? _ _ s.cell)).trans s.free, s.cb⟩
theorem rfy_start (c : Addr) (h : Bool) (w : World) (hc : w.cell? c = some (.bool h)) (hf : w.frozen? c = false) :
  RfyR c h w (w.alloc (.cells #[.int .i64 0, .int .i64 0, .int .i64 0, .int .i64 0] 43)) := by
 have hcb := World.block_lt_of_cell? w c hc
 have bl : Below w.heap.size w (w.alloc (.cells #[.int .i64 0, .int .i64 0, .int .i64 0, .int .i64 0] 43)) := by (repeat (first | with_reducible exact Below.refl _ _ | with_reducible apply Below.drew | (with_reducible refine below_drewN ?_ _) | (with_reducible refine Below.alloc ?_ (by (try simp) <;> omega) _) | (with_reducible refine Below.setCell ?_ (by (try simp) <;> omega) _)))
 refine ⟨Upd.then (Upd.refl hc) bl, ?_, (bl.cell hcb).trans hc, (bl.frozen hcb).trans hf, hcb⟩
 rw [zq4]; exact Blk.new w _ 4 _
set_option maxHeartbeats 8000000 in
theorem rfromyaw_any (c : Addr) (h : Bool) (a : Int) (w : World) (hc : w.cell? c = some (.bool h)) (hf : w.frozen? c = false) :
  Calls Tryz.prog 29 #[.pointer (some c), .int .i64 a] w fun e w' => e = .returned (.agg (arrv 4 (fyV a))) ∧ Upd c (h || fyH a) w w' := by
 have S0 := Lib.hid (rfy_start c h w hc hf)
 have WC := fun (x : World) => rwrap_any a x
 have MC := fun (x : World) (k : x.cell? c = some (.bool h)) (f : x.frozen? c = false) => rm_any c h (wrpV a) 536870912 x k f
 have HV : fyV a = uniV (q4 (cosV (fyM a)) 0 0 (sinV (fyM a))) ∧ (h || fyH a) = (h || mulH (wrpV a) 536870912 30 || cosH (fyM a) || sinH (fyM a) || uniH (q4 (cosV (fyM a)) 0 0 (sinV (fyM a)))) := ⟨rfl, by unfold fyH; simp [Bool.or_assoc]⟩
 rw [show mulV (wrpV a) 536870912 30 = fyM a from rfl] at MC
 obtain ⟨W, hW⟩ : ∃ x, wrpV a = x := ⟨_, rfl⟩
 obtain ⟨M, hM⟩ : ∃ x, fyM a = x := ⟨_, rfl⟩
 rw [hW] at WC MC HV
 rw [hM] at MC HV
 obtain ⟨H1, hH1⟩ : ∃ x, (h || mulH W 536870912 30) = x := ⟨_, rfl⟩
 rw [hH1] at MC HV
 have CC := fun (x : World) (k : x.cell? c = some (.bool H1)) (f : x.frozen? c = false) => rcos_any c H1 M x k f
 obtain ⟨C, hC⟩ : ∃ x, cosV M = x := ⟨_, rfl⟩
 obtain ⟨H2, hH2⟩ : ∃ x, (H1 || cosH M) = x := ⟨_, rfl⟩
 rw [hC, hH2] at CC
 rw [hC, hH2] at HV
 have NN := fun (x : World) (k : x.cell? c = some (.bool H2)) (f : x.frozen? c = false) => rsin_any c H2 M x k f
 obtain ⟨S, hS⟩ : ∃ x, sinV M = x := ⟨_, rfl⟩
 obtain ⟨H3, hH3⟩ : ∃ x, (H2 || sinH M) = x := ⟨_, rfl⟩
 rw [hS, hH3] at NN
 rw [hS, hH3] at HV
 have UC := fun (x : World) (k : x.cell? c = some (.bool H3)) (f : x.frozen? c = false) => rqunit_any c H3 (q4 C 0 0 S) x k f
 obtain ⟨E, hE⟩ : ∃ x, uniV (q4 C 0 0 S) = x := ⟨_, rfl⟩
 rw [hE] at UC HV
 have WC := Lib.hid WC
 have MC := Lib.hid MC
 have CC := Lib.hid CC
 have NN := Lib.hid NN
 have UC := Lib.hid UC
 have HV := Lib.hid HV
 clear hW hM hH1 hC hH2 hS hH3 hE hc hf
 go_enter Tryz.func29, Tryz.ntmps29
 go_upto_region 1 with fail
 generalize w.alloc (.cells #[.int .i64 0, .int .i64 0, .int .i64 0, .int .i64 0] 43) = W0 at *
 have HS := Lib.hid (show RfyR c h w W0.drew from ⟨S0.out.upd.drew, S0.out.r.drew, S0.out.cell, S0.out.free, S0.out.cb⟩)
 clear S0
 refine wp_region_M (fun _ => True) 6 (by kernel_rfl) ?_ (fun hHeld => ?_)
 ·trivial
 refine tk 0 ?_
 (try simp only [Act.put, nA, nB, nC])
 refine tk 1 ?_
 (try simp only [Act.put, nA, nB, nC])
 refine tk 2 ?_
 (try simp only [Act.put, nA, nB, nC])
 refine tk 3 ?_
 (try simp only [Act.put, nA, nB, nC])
 refine wpAnyM_oneS 4 rfl (by kernel_rfl) (fun K hK => ?_)
 go_simp
 (refine (WC.out _).mono ?_); rintro e w1 ⟨rfl, rfl⟩
 (try dsimp only)
 (try simp only [Act.put, nA, nB, nC])
 clear hHeld
 refine hK.out _ _ ?_ (fun hHeld => ?_)
 ·trivial
 clear hK K
 (try simp only [Act.put, nA, nB, nC])
 refine wpAnyM_oneS 5 rfl (by kernel_rfl) (fun K hK => ?_)
 go_simp
 (refine (MC.out _ HS.out.cell HS.out.free).mono ?_); rintro e w2 ⟨rfl, hu⟩; have S1 := Lib.hid (HS.out.upd' hu); clear hu HS
 (try dsimp only)
 (try simp only [Act.put, nA, nB, nC])
 clear hHeld
 refine hK.out _ _ ?_ (fun hHeld => ?_)
 ·trivial
 clear hK K
 (try simp only [Act.put, nA, nB, nC])
 refine wpAnyM_one 6 rfl (by kernel_rfl) (fun K hK => ?_)
 go_simp
 refine hK.out _ _ (.inl (by kernel_rfl)) (fun _ => ?_)
 clear hK K
 (try simp only [Act.put, nA, nB, nC])
 refine wpAnyM_done (by kernel_rfl) ?_ _
 go_upto_region 2 with fail
 refine wp_region_lit ?_
 refine tv ?_
 (try simp only [Act.put, nA, nB, nC])
 refine tv ?_
 (try simp only [Act.put, nA, nB, nC])
 refine tv ?_
 (try simp only [Act.put, nA, nB, nC])
 refine wpList_step (fun K hK => ?_)
 go_simp
 (refine (CC.out _ S1.out.cell S1.out.free).mono ?_); rintro e w3 ⟨rfl, hu⟩; have S2 := Lib.hid (S1.out.upd' hu); clear hu S1
 (try dsimp only)
 (try simp only [Act.put, nA, nB, nC])
 refine hK _ _ ?_
 clear hK K
 refine tv ?_
 (try simp only [Act.put, nA, nB, nC])
 refine tv ?_
 (try simp only [Act.put, nA, nB, nC])
 refine wpList_step (fun K hK => ?_)
 go_simp
 (refine (NN.out _ S2.out.cell S2.out.free).mono ?_); rintro e w4 ⟨rfl, hu⟩; have S3 := Lib.hid (S2.out.upd' hu); clear hu S2
 (try dsimp only)
 (try simp only [Act.put, nA, nB, nC])
 refine hK _ _ ?_
 clear hK K
 refine wpList_val (v := ?_) rfl ?_ ?_
 rotate_left
 ·(refine Eq.trans (run_build_rq4 (.tmp 15) (.tmp 18) (by rfl) (by rfl) (by rfl)) ?_; with_reducible rfl)
 (try simp only [Act.put, nA, nB, nC])
 refine wpList_step (fun K hK => ?_)
 go_simp
 (refine (UC.out _ S3.out.cell S3.out.free).mono ?_); rintro e w5 ⟨rfl, hu⟩; have S4 := Lib.hid (S3.out.upd' hu); clear hu S3
 (try dsimp only)
 (try simp only [Act.put, nA, nB, nC])
 refine hK _ _ ?_
 clear hK K
 refine wpList_done (w' := ?_) rfl ?_ ?_
 rotate_left
 ·(refine Eq.trans (run_store_row 43 (.tmp 4) (.tmp 20) (by rfl) w.heap.size (by rfl) (by rfl) S4.out.r (irq.trans rfl)) ?_; with_reducible rfl)
 (try simp only [Act.put, nA, nB, nC])
 refine wpList_nil ?_
 have r1 := S4.out.r.setRow E
 have B1 := S4.out.upd.then' (below_row (Below.refl _ _) (Nat.le_refl w.heap.size) (arrv 4 E))
 rw [← HV.out.2] at B1
 generalize w5.setRow w.heap.size (arrv 4 E) = W6 at *
 go_wp2_with fail
 refine bodyPost_ret (results_cell_row Tryz.results29 _ _ w.heap.size 43 (arrv 4 E) (0, 0) _ rfl r1 Tryz.underlying43 rfl (irq.trans (by rw [arrv_size]))) rfl ⟨by rw [HV.out.1], B1⟩
end Go.Proofs.YtgfklheepkgedaaGreat
/- The document's jumps (chapter 26): a number so often; no jump. -/
namespace Go.Proofs.YtgfklheepkgedaaGreat
open Go.RowKit
set_option maxRecDepth 100000
set_option maxHeartbeats 4000000 in
theorem rtimes_any (v : Int) (n : Nat) (w : World) (hn : n ≤ 100) :
  Calls Tryz.prog 34 #[.int .i64 v, .int .i64 (n : Int)] w fun e w' => ∃ u, e = .returned u ∧ Own w' w.heap.size 2 u n (fun _ => v) ∧ Below w.heap.size w w' := by
 go_enter Tryz.func34, Tryz.ntmps34
 go_wp2_with fail
 go_loopw [5, 6] (fun u i wr => ∃ (k : Nat) (x : Value), k ≤ n ∧ i = .int .i64 k ∧ x = u ∧ Hid (Own wr w.heap.size 2 x k (fun _ => v) ∧ Below w.heap.size w wr)) (fun _ i _ => n - (intOf i).toNat)
 case atStart => exact ⟨0, _, by omega, rfl, rfl, Lib.hid ⟨Own.nil _ _ _ _, Below.refl _ _⟩⟩
 case round =>
  obtain ⟨k, x, hk, rfl, rfl, R⟩ := hrel
  by_cases hlt : k < n
  ·have d1 : decide (k < n) = true := by simpa using hlt
   have d2 : decide ((k : Int) < (n : Int)) = true := by simp; omega
   have k0 : (0 : Int) ≤ (k : Int) := Int.natCast_nonneg _
   have k1 : (k : Int) < 100 := by omega
   have hz := R.out.2.size
   have HA := Lib.hid (R.out.1.alloc (.cells #[.int .i64 v] 2))
   have HB := Lib.hid (R.out.2.alloc hz (.cells #[.int .i64 v] 2))
   clear R
   go_upto_region 5 with fail
   refine wp_region_lit ?_
   refine tv ?_
   (try simp only [Act.put, nA, nB, nC])
   refine tv ?_
   (try simp only [Act.put, nA, nB, nC])
   refine wpList_act (v := ?_) (w' := ?_) rfl ?_ ?_
   rotate_left 2
   ·(go_simp; (try (first | with_reducible rfl | (constructor <;> with_reducible rfl))))
   (try simp only [Act.put, nA, nB, nC])
   (refine wpList_app1 rfl (.tmp 12) (.tmp 14) rfl w.heap.size rfl HA.out wr.heap.size 1 v rfl (by simp [go_sem]) (by omega) (by simp; omega) (wr.heap.size + 1) (by simp) ?_; intro g1 cp1 w4 hO1 hg1 hat1 hlt1; have HG := Lib.hid (And.intro (hO1.congr (snoc_fun3 (L := fun _ => v) rfl)) (below_grown HB.out hg1 (fun j hj => (ownBlock_lt3 HA.out hj).1) (by simp; omega))); clear hO1 hg1 hat1 hlt1 HA HB)
   refine tv ?_
   (try simp only [Act.put, nA, nB, nC])
   refine wpList_nil ?_
   go_wp2_with fail
   go_roundw
   case rel => exact ⟨k + 1, _, by omega, by go_num, rfl, HG⟩
   case measure => simp [intOf]; omega
  ·obtain rfl : k = n := by omega
   have d1 : decide (k < k) = false := by simp
   have d2 : decide ((k : Int) < (k : Int)) = false := by simp
   go_wp2_with fail
   go_ret
   exact ⟨_, rfl, R.out.1, R.out.2⟩
theorem irdl : (Tryz.prog.info? 46).map (·.size) = some 10 := by kernel_rfl
open Go in
theorem run_build_rdl {o : Oper} {ev : Operand → Value} {w : World} (x : Operand) (ho : o.op = .build 46 #[(0, x)]) {f : Nat → Int} (hx : ev x = .agg (arrv 4 f)) :
  (execOp ev o).run Tryz.prog w = .ok (.value (.agg (arrv 10 (fun i => if i < 4 then f i else 0)))) w := by
 unfold execOp
 simp only [ho, List.map_toArray, List.map_cons, List.map_nil, hx]
 kernel_rfl
theorem rnothing_any (w : World) : Calls Tryz.prog 28 #[] w fun e w' => e = .returned (.agg (arrv 10 dl0)) ∧ Below w.heap.size w w' := by
 have R0 := Lib.hid (show Blk (w.alloc (.cells #[.int .i64 0, .int .i64 0, .int .i64 0, .int .i64 0, .int .i64 0, .int .i64 0, .int .i64 0, .int .i64 0, .int .i64 0, .int .i64 0] 46)) w.heap.size 46 10 (fun _ => 0) by rw [zdl]; exact Blk.new _ _ _ _)
 have B0 := Lib.hid (show Below w.heap.size w (w.alloc (.cells #[.int .i64 0, .int .i64 0, .int .i64 0, .int .i64 0, .int .i64 0, .int .i64 0, .int .i64 0, .int .i64 0, .int .i64 0, .int .i64 0] 46)) by (repeat (first | with_reducible exact Below.refl _ _ | with_reducible apply Below.drew | (with_reducible refine below_drewN ?_ _) | (with_reducible refine Below.alloc ?_ (by (try simp) <;> omega) _) | (with_reducible refine Below.setCell ?_ (by (try simp) <;> omega) _))))
 have E0 := Lib.hid (show arrv 10 (fun i => if i < 4 then oneQ i else 0) = arrv 10 dl0 from arrv_congr (by decide))
 go_enter Tryz.func28, Tryz.ntmps28
 go_upto_region 1 with fail
 generalize w.alloc (.cells #[.int .i64 0, .int .i64 0, .int .i64 0, .int .i64 0, .int .i64 0, .int .i64 0, .int .i64 0, .int .i64 0, .int .i64 0, .int .i64 0] 46) = W0 at *
 refine wp_region_lit ?_
 refine wpList_step (fun K hK => ?_)
 go_simp
 (refine (rqone_any _).mono ?_); rintro e w1 ⟨rfl, hb⟩; have R1 := Lib.hid (R0.out.below hb); have B1 := Lib.hid (Below.after B0.out hb); clear hb R0 B0
 (try dsimp only)
 (try simp only [Act.put, nA, nB, nC])
 refine hK _ _ ?_
 clear hK K
 refine wpList_val (v := ?_) rfl ?_ ?_
 rotate_left
 ·(refine Eq.trans (run_build_rdl (.tmp 1) (by rfl) (by rfl)) ?_; with_reducible rfl)
 (try simp only [Act.put, nA, nB, nC])
 refine wpList_done (w' := ?_) rfl ?_ ?_
 rotate_left
 ·(refine Eq.trans (run_store_row 46 (.tmp 0) (.tmp 2) (by rfl) (w.heap.size) (by rfl) (by rfl) (R1.out) (irdl.trans rfl)) ?_; with_reducible rfl)
 (try simp only [Act.put, nA, nB, nC])
 refine wpList_nil ?_
 rw [E0.out]
 have D1 := Lib.hid (R1.out.setRow dl0)
 have B2 := Lib.hid (below_row B1.out (Nat.le_refl _) (arrv 10 dl0))
 generalize w1.setRow w.heap.size (arrv 10 dl0) = W2 at *
 go_wp2_with fail
 refine bodyPost_ret (results_cell_row Tryz.results28 _ _ w.heap.size 46 (arrv 10 dl0) (0, 0) _ rfl D1.out Tryz.underlying46 rfl (irdl.trans (by rw [arrv_size]))) rfl ⟨rfl, B2.out⟩
end Go.Proofs.YtgfklheepkgedaaGreat
/- Contract of the reference's Near. -/
namespace Go.Proofs.YtgfklheepkgedaaGreat
open Go.RowKit
set_option maxRecDepth 100000
def sqN (A : Nat → Int) (i : Nat) : Nat := (A i).natAbs * (A i).natAbs
theorem sqN_int (A : Nat → Int) (i : Nat) : A i * A i = ((sqN A i : Nat) : Int) := by unfold sqN; exact Int.natAbs_mul_self.symm
def nrS (A : Nat → Int) : Nat → Nat | 0 => 0 | k + 1 => nrS A k + sqN A k / 4
def nrT (A : Nat → Int) : Nat → Nat | 0 => 0 | k + 1 => nrT A k + sqN A k % 4
theorem nr_sum (A : Nat → Int) : sum4 A = ((4 * nrS A 4 + nrT A 4 : Nat) : Int) := by
 unfold sum4
 rw [sqN_int, sqN_int, sqN_int, sqN_int]
 simp only [nrS, nrT]
 omega
theorem nrT_bd (A : Nat → Int) : ∀ k, nrT A k ≤ 3 * k
 | 0 => by simp [nrT]
 | k + 1 => by have := nrT_bd A k; simp only [nrT]; omega
theorem nrS_mono (A : Nat → Int) {k m : Nat} (h : k ≤ m) : nrS A k ≤ nrS A m := by
  induction m with
  | zero => have : k = 0 := by omega
            subst this; exact Nat.le_refl _
  | succ m ih =>
    by_cases e : k = m + 1
    · subst e; exact Nat.le_refl _
    · have := ih (by omega); simp only [nrS]; omega
theorem near_far {A : Nat → Int} {k : Nat} (hk : k < 4) (h : A k < -2147483648 ∨ 2147483648 < A k) : unitB A = false := by
 refine unitB_no (n := k + 1) ?_ (by omega)
 simp only [inQs]
 rw [show inQ (A k) = false from by unfold inQ; simp; omega, Bool.and_false]
theorem near_much {A : Nat → Int} {k : Nat} (hk : k ≤ 4) (h : 576460752303423488 < nrS A k) : unitB A = false := by
 have h1 := nrS_mono A hk
 have h2 := nr_sum A
 unfold unitB
 rw [show decide (sum4 A - 1152921504606846976 ≤ 4294967296) = false from by simp; omega]
 simp
theorem sq_small {a : Int} (h : a * a ≤ 1152921508901814272) : inQ a = true := by
 unfold inQ
 have h1 : a ≤ 1073741840 := by
  rcases Int.lt_or_le 1073741840 a with h2 | h2
  ·have : 1073741841 * 1073741841 ≤ a * a := Int.mul_le_mul (by omega) (by omega) (by omega) (by omega)
   omega
  ·exact h2
 have h3 : -1073741840 ≤ a := by
  rcases Int.lt_or_le a (-1073741840) with h2 | h2
  ·have : 1073741841 * 1073741841 ≤ (-a) * (-a) := Int.mul_le_mul (by omega) (by omega) (by omega) (by omega)
   rw [Int.neg_mul_neg] at this
   omega
  ·exact h2
 simp; omega
theorem near_end (A : Nat → Int) : unitB A = (decide (-4294967296 ≤ 4 * ((nrS A 4 : Int) - 288230376151711744) + (nrT A 4 : Int)) && decide (4 * ((nrS A 4 : Int) - 288230376151711744) + (nrT A 4 : Int) ≤ 4294967296)) := by
 have h2 := nr_sum A
 have e : 4 * ((nrS A 4 : Int) - 288230376151711744) + (nrT A 4 : Int) = sum4 A - 1152921504606846976 := by omega
 rw [e]
 unfold unitB
 by_cases h : sum4 A - 1152921504606846976 ≤ 4294967296
 ·have hs : ∀ i, i < 4 → A i * A i ≤ sum4 A := by
   intro i hi
   have z0 := sqN_int A 0
   have z1 := sqN_int A 1
   have z2 := sqN_int A 2
   have z3 := sqN_int A 3
   unfold sum4
   obtain rfl | rfl | rfl | rfl : i = 0 ∨ i = 1 ∨ i = 2 ∨ i = 3 := by omega
   all_goals omega
  have hq : inQs A 4 = true := by
   simp only [inQs]
   rw [sq_small (by have := hs 0 (by omega); omega), sq_small (by have := hs 1 (by omega); omega), sq_small (by have := hs 2 (by omega); omega), sq_small (by have := hs 3 (by omega); omega)]
   rfl
  rw [hq, Bool.true_and]
 ·rw [show decide (sum4 A - 1152921504606846976 ≤ 4294967296) = false from by simpa using h]
  simp
set_option maxHeartbeats 4000000 in
theorem rnear_any (A : Nat → Int) (w : World) : Calls Tryz.prog 56 #[.agg (arrv 4 A)] w fun e w' => e = .returned (.bool (unitB A)) ∧ Below w.heap.size w w' := by
 have P0 := Lib.hid (Blk.new w 43 4 A)
 have B0 := Lib.hid (show Below w.heap.size w (w.alloc (.cells (arrv 4 A) 43)) by (repeat (first | with_reducible exact Below.refl _ _ | with_reducible apply Below.drew | (with_reducible refine below_drewN ?_ _) | (with_reducible refine Below.alloc ?_ (by (try simp) <;> omega) _) | (with_reducible refine Below.setCell ?_ (by (try simp) <;> omega) _))))
 go_enter Tryz.func56, Tryz.ntmps56
 go_upto_region 1 with fail
 generalize w.alloc (.cells (arrv 4 A) 43) = W0 at *
 go_wp2_with fail
 go_loopw [3, 4] (fun v3 v4 wr => ∃ k : Nat, k ≤ 4 ∧ v3 = .int .i64 (nrS A k : Nat) ∧ v4 = .int .i64 k ∧ Hid (Below w.heap.size w wr ∧ Blk wr w.heap.size 43 4 A ∧ (∀ i, i < k → -2147483648 ≤ A i ∧ A i ≤ 2147483648) ∧ nrS A k ≤ 576460752303423488)) (fun _ v4 _ => 4 - (intOf v4).toNat)
 case atStart => exact ⟨0, by omega, rfl, rfl, Lib.hid ⟨B0.out, P0.out, fun i hi => by omega, by simp [nrS]⟩⟩
 case round =>
  obtain ⟨k, hk, rfl, rfl, R⟩ := hrel
  by_cases hlt : k < 4
  ·have d1 : decide ((k : Int) < 4) = true := by simp; omega
   have b0 := R.out.2.1.cell (i := k) hlt
   have k0 : (0 : Int) ≤ (k : Int) := Int.natCast_nonneg _
   have k1 : (k : Int) < 4 := by omega
   have hsq := sqN_int A k
   have hS : nrS A (k + 1) = nrS A k + sqN A k / 4 := rfl
   have NF := Lib.hid (fun (h : A k < -2147483648 ∨ 2147483648 < A k) => near_far hlt h)
   have NM := Lib.hid (fun (h : 576460752303423488 < nrS A (k + 1)) => near_much (A := A) (k := k + 1) (by omega) h)
   obtain ⟨a, ha⟩ : ∃ a, A k = a := ⟨_, rfl⟩
   obtain ⟨P, hP⟩ : ∃ P, sqN A k = P := ⟨_, rfl⟩
   rw [ha] at b0 hsq
   simp only [ha] at NF
   rw [hP] at hsq hS
   have EA := Lib.hid ha
   have HR := Lib.hid R.out
   have hs0 := R.out.2.2.2
   obtain ⟨S, hSk⟩ : ∃ S, nrS A k = S := ⟨_, rfl⟩
   rw [hSk] at hS hs0 ⊢
   clear R ha hP hSk P0 B0
   by_cases h1 : a < -2147483648
   ·have e1 : decide (a < -2147483648) = true := by simpa using h1
    have NO := Lib.hid (NF.out (.inl h1))
    clear h1 hsq hS
    go_wp2_with fail
    go_ret
    exact ⟨by rw [NO.out]; rfl, HR.out.1⟩
   ·have e1 : decide (a < -2147483648) = false := by simpa using h1
    by_cases h2 : 2147483648 < a
    ·have e2 : decide (2147483648 < a) = true := by simpa using h2
     have NO := Lib.hid (NF.out (.inr h2))
     clear h1 h2 hsq hS
     go_wp2_with fail
     go_ret
     exact ⟨by rw [NO.out]; rfl, HR.out.1⟩
    ·have e2 : decide (2147483648 < a) = false := by simpa using h2
     have hPb : P ≤ 4611686018427387904 := by
      have h3 : a.natAbs ≤ 2147483648 := by omega
      have h4 : a.natAbs * a.natAbs ≤ 2147483648 * 2147483648 := Nat.mul_le_mul h3 h3
      have h5 : a * a = ((a.natAbs * a.natAbs : Nat) : Int) := Int.natAbs_mul_self.symm
      omega
     have kw : IntKind.i64.wrap (a * a) = (P : Int) := by rw [hsq]; exact IntWalk.i64_in _ (by omega)
     have HA2 := Lib.hid (show -2147483648 ≤ a ∧ a ≤ 2147483648 by omega)
     clear h1 h2 hsq
     go_upto_region 7 with fail
     obtain ⟨Q, hQ⟩ : ∃ Q, P / 4 = Q := ⟨_, rfl⟩
     have kq : IntKind.i64.wrap ((P : Int) / 4) = (Q : Int) := by rw [show ((P : Int) / 4) = (Q : Int) by omega]; exact IntWalk.i64_in _ (by omega)
     rw [hQ] at hS
     obtain ⟨T, hT⟩ : ∃ T, S + Q = T := ⟨_, rfl⟩
     have hTi : (S : Int) + (Q : Int) = (T : Int) := by omega
     have kt : IntKind.i64.wrap ((S : Int) + (Q : Int)) = (T : Int) := by rw [hTi]; exact IntWalk.i64_in _ (by omega)
     have tb0 : (0 : Int) ≤ (T : Int) := Int.natCast_nonneg _
     have tb1 : (T : Int) < 4611686018427387904 := by omega
     rw [hT] at hS
     rw [hS] at NM
     have HS := Lib.hid hS
     clear hPb hQ hT hs0 hS
     refine wp_region_M (fun w' => w'.cell? ⟨w.heap.size, k, none⟩ = some (.int .i64 a)) 8 (by kernel_rfl) ?_ (fun hHeld => ?_)
     ·exact b0
     refine tk 0 ?_
     (try simp only [Act.put, nA, nB, nC])
     refine tk 1 ?_
     (try simp only [Act.put, nA, nB, nC])
     refine tk 2 ?_
     (try simp only [Act.put, nA, nB, nC])
     refine tk 3 ?_
     (try simp only [Act.put, nA, nB, nC])
     refine tk 4 ?_
     (try simp only [Act.put, nA, nB, nC])
     refine tk 5 ?_
     (try simp only [Act.put, nA, nB, nC])
     refine tl 6 (v := ?_) ?_ ?_
     rotate_left
     ·(intro wx hSw; go_simp; (try rw [kw]); (try with_reducible rfl))
     (try simp only [Act.put, nA, nB, nC])
     refine tl 7 (v := ?_) ?_ ?_
     rotate_left
     ·(intro wx hSw; go_simp; (try rw [kq]); (try with_reducible rfl))
     (try simp only [Act.put, nA, nB, nC])
     refine wpAnyM_one 8 rfl (by kernel_rfl) (fun K hK => ?_)
     go_simp
     refine hK.out _ _ (.inl (by kernel_rfl)) (fun _ => ?_)
     clear hK K
     (try simp only [Act.put, nA, nB, nC])
     refine wpAnyM_done (by kernel_rfl) ?_ _
     (try clear hHeld)
     have HR7 := Lib.hid (show Below w.heap.size w wr.drew ∧ Blk wr.drew w.heap.size 43 4 A ∧ (∀ i, i < k → -2147483648 ≤ A i ∧ A i ≤ 2147483648) from ⟨HR.out.1.drew, HR.out.2.1, HR.out.2.2.1⟩)
     clear b0 kw kq HR
     generalize wr.drew = W7 at *
     go_upto_region 9 with fail
     (try rw [kt]); (try rw [hTi])
     by_cases h3 : 576460752303423488 < T
     ·have e3 : decide (576460752303423488 < T) = true := by simpa using h3
      have e4 : decide ((576460752303423488 : Int) < (T : Int)) = true := by simp; omega
      have NO := Lib.hid (NM.out h3)
      clear h3
      go_wp2_with fail
      go_ret
      exact ⟨by rw [NO.out]; rfl, HR7.out.1⟩
     ·have e3 : decide (576460752303423488 < T) = false := by simpa using h3
      have e4 : decide ((576460752303423488 : Int) < (T : Int)) = false := by simp; omega
      have H3 := Lib.hid h3
      clear h3 NM NF
      go_wp2_with fail
      go_roundw
      case rel =>
       refine ⟨k + 1, by omega, by rw [HS.out], by go_num, Lib.hid ⟨HR7.out.1, HR7.out.2.1, fun i hi => ?_, by rw [HS.out]; have := H3.out; omega⟩⟩
       by_cases e : i = k
       ·subst e; rw [EA.out]; exact HA2.out
       ·exact HR7.out.2.2 i (by omega)
      case measure => simp [intOf]; omega
  ·obtain rfl : k = 4 := by omega
   rw [show ((4 : Nat) : Int) = 4 from rfl]
   have HE := Lib.hid (near_end A)
   have hs0 := R.out.2.2.2
   have HR := Lib.hid R.out
   obtain ⟨S, hSk⟩ : ∃ S, nrS A 4 = S := ⟨_, rfl⟩
   rw [hSk] at HE hs0 ⊢
   clear R hSk hlt hk P0 B0
   go_wp2_with fail
   go_loopw [6, 7] (fun v6 v7 wq => ∃ k : Nat, k ≤ 4 ∧ v6 = .int .i64 (nrT A k : Nat) ∧ v7 = .int .i64 k ∧ Hid (Below w.heap.size w wq ∧ Blk wq w.heap.size 43 4 A)) (fun _ v7 _ => 4 - (intOf v7).toNat)
   case atStart => exact ⟨0, by omega, rfl, rfl, Lib.hid ⟨HR.out.1, HR.out.2.1⟩⟩
   case round =>
    obtain ⟨k, hk, rfl, rfl, R⟩ := hrel
    rename World => wr'
    have hT0 := nrT_bd A k
    by_cases hlt : k < 4
    ·have d1 : decide ((k : Int) < 4) = true := by simp; omega
     have b0 := R.out.2.cell (i := k) hlt
     have k0 : (0 : Int) ≤ (k : Int) := Int.natCast_nonneg _
     have k1 : (k : Int) < 4 := by omega
     have hsq := sqN_int A k
     have hS2 : nrT A (k + 1) = nrT A k + sqN A k % 4 := rfl
     have hbd := HR.out.2.2.1 k hlt
     obtain ⟨a, ha⟩ : ∃ a, A k = a := ⟨_, rfl⟩
     obtain ⟨P, hP⟩ : ∃ P, sqN A k = P := ⟨_, rfl⟩
     rw [ha] at b0 hsq hbd
     rw [hP] at hsq hS2
     obtain ⟨U, hU⟩ : ∃ U, nrT A k = U := ⟨_, rfl⟩
     rw [hU] at hS2 hT0 ⊢
     have hPb : P ≤ 4611686018427387904 := by
      have h3 : a.natAbs ≤ 2147483648 := by omega
      have h4 : a.natAbs * a.natAbs ≤ 2147483648 * 2147483648 := Nat.mul_le_mul h3 h3
      have h5 : a * a = ((a.natAbs * a.natAbs : Nat) : Int) := Int.natAbs_mul_self.symm
      omega
     have kw : IntKind.i64.wrap (a * a) = (P : Int) := by rw [hsq]; exact IntWalk.i64_in _ (by omega)
     obtain ⟨Q, hQ⟩ : ∃ Q, P % 4 = Q := ⟨_, rfl⟩
     have kq : IntKind.i64.wrap ((P : Int) % 4) = (Q : Int) := by rw [show ((P : Int) % 4) = (Q : Int) by omega]; exact IntWalk.i64_in _ (by omega)
     have kq' : (P : Int).tmod 4 = (Q : Int) := by rw [Int.tmod_eq_emod_of_nonneg (by omega)]; omega
     rw [hQ] at hS2
     obtain ⟨T, hT⟩ : ∃ T, U + Q = T := ⟨_, rfl⟩
     have hTi : (U : Int) + (Q : Int) = (T : Int) := by omega
     have kt : IntKind.i64.wrap ((U : Int) + (Q : Int)) = (T : Int) := by rw [hTi]; exact IntWalk.i64_in _ (by omega)
     have tb0 : (0 : Int) ≤ (T : Int) := Int.natCast_nonneg _
     have tb1 : (T : Int) < 100 := by omega
     rw [hT] at hS2
     have kT : IntKind.i64.wrap (T : Int) = (T : Int) := IntWalk.i64_in _ (by omega)
     have HS2 := Lib.hid hS2
     clear hPb hQ hT hS2 hbd hsq ha hP hU hT0
     go_upto_region 15 with fail
     refine wp_region_M (fun w' => w'.cell? ⟨w.heap.size, k, none⟩ = some (.int .i64 a)) 10 (by kernel_rfl) ?_ (fun hHeld => ?_)
     ·exact b0
     refine tk 0 ?_
     (try simp only [Act.put, nA, nB, nC])
     refine tk 1 ?_
     (try simp only [Act.put, nA, nB, nC])
     refine tk 2 ?_
     (try simp only [Act.put, nA, nB, nC])
     refine tk 3 ?_
     (try simp only [Act.put, nA, nB, nC])
     refine tk 4 ?_
     (try simp only [Act.put, nA, nB, nC])
     refine tk 5 ?_
     (try simp only [Act.put, nA, nB, nC])
     refine tk 6 ?_
     (try simp only [Act.put, nA, nB, nC])
     refine tl 7 (v := ?_) ?_ ?_
     rotate_left
     ·(intro wx hSw; go_simp; (try rw [kw]); (try with_reducible rfl))
     (try simp only [Act.put, nA, nB, nC])
     refine tl 8 (v := ?_) ?_ ?_
     rotate_left
     ·(intro wx hSw; go_simp; (first | rw [kq] | rw [kq'] | skip); (try with_reducible rfl))
     (try simp only [Act.put, nA, nB, nC])
     refine tl 9 (v := ?_) ?_ ?_
     rotate_left
     ·(intro wx hSw; go_simp; (first | rw [kT] | rw [kt] | rw [hTi] | skip); (try with_reducible rfl))
     (try simp only [Act.put, nA, nB, nC])
     refine wpAnyM_one 10 rfl (by kernel_rfl) (fun K hK => ?_)
     go_simp
     refine hK.out _ _ (.inl (by kernel_rfl)) (fun _ => ?_)
     clear hK K
     (try simp only [Act.put, nA, nB, nC])
     refine wpAnyM_done (by kernel_rfl) ?_ _
     (try clear hHeld)
     have HR7 := Lib.hid (show Below w.heap.size w wr'.drew ∧ Blk wr'.drew w.heap.size 43 4 A from ⟨R.out.1.drew, R.out.2⟩)
     clear b0 kw kq kq' kt hTi
     go_wp2_with fail
     go_roundw
     case rel => exact ⟨k + 1, by omega, by rw [HS2.out], by go_num, HR7⟩
     case measure => simp [intOf]; omega
    ·obtain rfl : k = 4 := by omega
     rw [show ((4 : Nat) : Int) = 4 from rfl]
     obtain ⟨U, hU⟩ : ∃ U, nrT A 4 = U := ⟨_, rfl⟩
     rw [hU] at hT0 HE ⊢
     have w1 : IntKind.i64.wrap ((S : Int) - 288230376151711744) = (S : Int) - 288230376151711744 := IntWalk.i64_in _ (by omega)
     have w2 : IntKind.i64.wrap (4 * ((S : Int) - 288230376151711744)) = 4 * ((S : Int) - 288230376151711744) := IntWalk.i64_in _ (by omega)
     have w3 : IntKind.i64.wrap (4 * ((S : Int) - 288230376151711744) + (U : Int)) = 4 * ((S : Int) - 288230376151711744) + (U : Int) := IntWalk.i64_in _ (by omega)
     have HB := Lib.hid R.out.1
     clear R hlt hk hU HR
     go_upto_region 17 with fail
     obtain ⟨d, hd⟩ : ∃ d, 4 * ((S : Int) - 288230376151711744) + (U : Int) = d := ⟨_, rfl⟩
     rw [hd] at HE ⊢
     clear w1 w2 w3 hd
     by_cases g : -4294967296 ≤ d
     ·have g1 : decide (-4294967296 ≤ d) = true := by simpa using g
      by_cases g' : d ≤ 4294967296
      ·have g2 : decide (d ≤ 4294967296) = true := by simpa using g'
       clear g g'
       go_wp2_with fail
       go_ret
       exact ⟨by rw [HE.out, g1, g2]; rfl, HB.out⟩
      ·have g2 : decide (d ≤ 4294967296) = false := by simpa using g'
       clear g g'
       go_wp2_with fail
       go_ret
       exact ⟨by rw [HE.out, g1, g2]; rfl, HB.out⟩
     ·have g1 : decide (-4294967296 ≤ d) = false := by simpa using g
      clear g
      go_wp2_with fail
      go_ret
      exact ⟨by rw [HE.out, g1]; rfl, HB.out⟩
end Go.Proofs.YtgfklheepkgedaaGreat
/- Contracts of the reference's estimate (1): Att, turn, Bound, Part. -/
namespace Go.Proofs.YtgfklheepkgedaaGreat
open Go.RowKit
set_option maxRecDepth 100000
theorem ratt_any (S : Nat → Int) (w : World) : Calls Tryz.prog 32 #[.agg (arrv 24 S)] w fun e w' => e = .returned (.agg (arrv 4 S)) ∧ Below w.heap.size w w' := by
 have P0 : Blk ((w.alloc (.cells (arrv 24 S) 23)).alloc (.cells #[.int .i64 0, .int .i64 0, .int .i64 0, .int .i64 0] 43)) w.heap.size 23 24 S := (Blk.new w _ 24 _).alloc _
 have R0 : Blk ((w.alloc (.cells (arrv 24 S) 23)).alloc (.cells #[.int .i64 0, .int .i64 0, .int .i64 0, .int .i64 0] 43)) (w.heap.size + 1) 43 4 (fun _ => 0) := by rw [zq4]; exact Blk.new1 w _ _ 4 _
 have B0 : Below w.heap.size w ((w.alloc (.cells (arrv 24 S) 23)).alloc (.cells #[.int .i64 0, .int .i64 0, .int .i64 0, .int .i64 0] 43)) := by (repeat (first | with_reducible exact Below.refl _ _ | with_reducible apply Below.drew | (with_reducible refine below_drewN ?_ _) | (with_reducible refine Below.alloc ?_ (by (try simp) <;> omega) _) | (with_reducible refine Below.setCell ?_ (by (try simp) <;> omega) _)))
 have q0 := P0.cell (i := 0) (by decide)
 have q1 := P0.cell (i := 1) (by decide)
 have q2 := P0.cell (i := 2) (by decide)
 have q3 := P0.cell (i := 3) (by decide)
 have B0 := Lib.hid B0
 have R0 := Lib.hid R0
 clear P0
 go_enter Tryz.func32, Tryz.ntmps32
 go_upto_region 1 with fail
 generalize (w.alloc (.cells (arrv 24 S) 23)).alloc (.cells #[.int .i64 0, .int .i64 0, .int .i64 0, .int .i64 0] 43) = W0 at *
 have RB := R0.out
 refine wp_region_lit ?_
 refine tv ?_
 (try simp only [Act.put, nA, nB, nC])
 refine tv ?_
 (try simp only [Act.put, nA, nB, nC])
 refine tv ?_
 (try simp only [Act.put, nA, nB, nC])
 refine tv ?_
 (try simp only [Act.put, nA, nB, nC])
 refine tv ?_
 (try simp only [Act.put, nA, nB, nC])
 refine tv ?_
 (try simp only [Act.put, nA, nB, nC])
 refine tv ?_
 (try simp only [Act.put, nA, nB, nC])
 refine tv ?_
 (try simp only [Act.put, nA, nB, nC])
 refine wpList_val (v := ?_) rfl ?_ ?_
 rotate_left
 ·(go_simp; rw [show (#[.int .i64 (S 0), .int .i64 (S 1), .int .i64 (S 2), .int .i64 (S 3)] : Array Value) = arrv 4 S from arr4 S]; (try with_reducible rfl))
 (try simp only [Act.put, nA, nB, nC])
 refine wpList_done (w' := ?_) rfl ?_ ?_
 rotate_left
 ·refine Eq.trans (run_store_row 43 (.tmp 2) (.tmp 11) (by rfl) (w.heap.size + 1) (by rfl) (by rfl) (RB) (irq.trans rfl)) ?_; with_reducible rfl
 (try simp only [Act.put, nA, nB, nC])
 refine wpList_nil ?_
 go_wp2_with fail
 refine bodyPost_ret (results_cell_row Tryz.results32 _ _ (w.heap.size + 1) 43 (arrv 4 S) (0, 0) _ rfl (setRow_heap _ _ _ _ _ _ RB) Tryz.underlying43 rfl (irq.trans (by rw [arrv_size]))) rfl ⟨rfl, ?_⟩
 exact below_row B0.out (by omega) _
structure RtuR (S Q g : Nat → Int) (w wr : World) : Prop where
 below : Below w.heap.size w wr
 sB : Blk wr w.heap.size 23 24 g
 qB : Blk wr (w.heap.size + 1) 43 4 Q
 rB : Blk wr (w.heap.size + 1 + 1) 23 24 (fun _ => 0)
def rtuK (S Q : Nat → Int) (k : Nat) : Nat → Int := fun i => if i < k then Q i else S i
set_option maxHeartbeats 2000000 in
theorem rturn_any (S Q : Nat → Int) (w : World) : Calls Tryz.prog 57 #[.agg (arrv 24 S), .agg (arrv 4 Q)] w fun e w' => e = .returned (.agg (arrv 24 (turnd S Q))) ∧ Below w.heap.size w w' := by
 go_enter Tryz.func57, Tryz.ntmps57
 go_upto_region 1 with fail
 have R0 : Hid (RtuR S Q (rtuK S Q 0) w (((w.alloc (.cells (arrv 24 S) 23)).alloc (.cells (arrv 4 Q) 43)).alloc (.cells #[.int .i64 0, .int .i64 0, .int .i64 0, .int .i64 0, .int .i64 0, .int .i64 0, .int .i64 0, .int .i64 0, .int .i64 0, .int .i64 0, .int .i64 0, .int .i64 0, .int .i64 0, .int .i64 0, .int .i64 0, .int .i64 0, .int .i64 0, .int .i64 0, .int .i64 0, .int .i64 0, .int .i64 0, .int .i64 0, .int .i64 0, .int .i64 0] 23))) := Lib.hid
  ⟨by (repeat (first | with_reducible exact Below.refl _ _ | with_reducible apply Below.drew | (with_reducible refine below_drewN ?_ _) | (with_reducible refine Below.alloc ?_ (by (try simp) <;> omega) _) | (with_reducible refine Below.setCell ?_ (by (try simp) <;> omega) _))), (((Blk.new w _ _ _).alloc _).alloc _).congr fun i hi => by simp [rtuK], (Blk.new1 w _ _ _ _).alloc _, by rw [zvec24]; exact blk_new2 w _ _ _ _ _⟩
 generalize ((w.alloc (.cells (arrv 24 S) 23)).alloc (.cells (arrv 4 Q) 43)).alloc (.cells #[.int .i64 0, .int .i64 0, .int .i64 0, .int .i64 0, .int .i64 0, .int .i64 0, .int .i64 0, .int .i64 0, .int .i64 0, .int .i64 0, .int .i64 0, .int .i64 0, .int .i64 0, .int .i64 0, .int .i64 0, .int .i64 0, .int .i64 0, .int .i64 0, .int .i64 0, .int .i64 0, .int .i64 0, .int .i64 0, .int .i64 0, .int .i64 0] 23) = W0 at *
 go_wp2_with fail
 go_loopw [5] (fun i wr => ∃ k : Nat, k ≤ 4 ∧ i = .int .i64 k ∧ Hid (RtuR S Q (rtuK S Q k) w wr)) (fun i _ => 4 - (intOf i).toNat)
 case atStart => exact ⟨0, by omega, rfl, R0⟩
 case round =>
  obtain ⟨k, hk, rfl, R⟩ := hrel
  clear R0
  by_cases hlt : k < 4
  ·have d1 : decide ((k : Int) < 4) = true := by simp; omega
   have k0 : (0 : Int) ≤ (k : Int) := Int.natCast_nonneg _
   have k1 : (k : Int) < 4 := by omega
   have q0 := R.out.qB.cell (i := k) (by omega)
   have v0 := R.out.sB.cell (i := k) (by omega)
   have v1 := R.out.sB.free k
   go_wp2_with fail
   go_roundw
   case rel =>
    refine ⟨k + 1, by omega, by go_num, Lib.hid ⟨R.out.below.setCell (Nat.le_refl _) _, (R.out.sB.set _ _).congr fun i hi => ?_, R.out.qB.other (by simp) _, R.out.rB.other (by simp; omega) _⟩⟩
    simp only [Go.Proofs.YtgfklheepkgedaaGreat.upd, rtuK]
    by_cases h : i = k
    ·subst h; rw [if_pos rfl, if_pos (by omega)]
    ·rw [if_neg h]; split <;> split <;> first | rfl | omega
   case measure => simp [intOf]; omega
  ·have hk4 : k = 4 := by omega
   subst hk4
   rw [show ((4 : Nat) : Int) = 4 from rfl]
   have V := R.out.sB
   have X := R.out.rB
   have B := Lib.hid R.out.below
   clear R hk hlt
   go_wp2_with (first | (refine wpList_load_row rfl 23 _ rfl (w.heap.size) rfl 23 _ (0, 0) _ (V) Tryz.underlying23 rfl (ist.trans (by rw [arrv_size])) ?_) | (refine wpList_store_row rfl 23 _ _ rfl (w.heap.size + 1 + 1) _ rfl rfl 23 _ (X) (ist.trans (by rw [arrv_size])) (by rw [arrv_size, arrv_size]) (oneCell_arrv _ _) ?_))
   refine bodyPost_ret (results_cell_row Tryz.results57 _ _ (w.heap.size + 1 + 1) 23 (arrv 24 (rtuK S Q 4)) (0, 0) _ rfl (setRow_heap _ _ _ _ _ _ X) Tryz.underlying23 rfl (ist.trans (by rw [arrv_size]))) rfl ⟨?_, below_row B.out (by omega) _⟩
   exact congrArg (fun x => Ending.returned (Value.agg x)) (arrv_congr fun i hi => rfl)
theorem rbound_any (i : Nat) (w : World) (hi : i < 24) : Calls Tryz.prog 59 #[.int .i64 i] w fun e w' => e = .returned (.int .i64 (boxF i)) ∧ w = w' := by
 by_cases h0 : i < 4
 ·have d0 : decide ((i : Int) < 4) = true := by simp; omega
  have e : boxF i = 1073741840 := by unfold boxF; rw [if_pos (by omega)]
  rw [e]
  go_enter Tryz.func59, Tryz.ntmps59
  go_wp2_with fail
  go_ret
  exact ⟨rfl, rfl⟩
 ·have d0 : decide ((i : Int) < 4) = false := by simp; omega
  by_cases h1 : i < 7
  ·have d1 : decide ((i : Int) < 7) = true := by simp; omega
   have e : boxF i = 549755813888 := by unfold boxF; (repeat rw [if_neg (by omega)]); rw [if_pos (by omega)]
   rw [e]
   go_enter Tryz.func59, Tryz.ntmps59
   go_wp2_with fail
   go_ret
   exact ⟨rfl, rfl⟩
  ·have d1 : decide ((i : Int) < 7) = false := by simp; omega
   by_cases h2 : i < 10
   ·have d2 : decide ((i : Int) < 10) = true := by simp; omega
    have e : boxF i = 9007199254740992 := by unfold boxF; (repeat rw [if_neg (by omega)]); rw [if_pos (by omega)]
    rw [e]
    go_enter Tryz.func59, Tryz.ntmps59
    go_wp2_with fail
    go_ret
    exact ⟨rfl, rfl⟩
   ·have d2 : decide ((i : Int) < 10) = false := by simp; omega
    by_cases h3 : i < 13
    ·have d3 : decide ((i : Int) < 13) = true := by simp; omega
     have e : boxF i = 134217728 := by unfold boxF; (repeat rw [if_neg (by omega)]); rw [if_pos (by omega)]
     rw [e]
     go_enter Tryz.func59, Tryz.ntmps59
     go_wp2_with fail
     go_ret
     exact ⟨rfl, rfl⟩
    ·have d3 : decide ((i : Int) < 13) = false := by simp; omega
     by_cases h4 : i < 16
     ·have d4 : decide ((i : Int) < 16) = true := by simp; omega
      have e : boxF i = 1073741824 := by unfold boxF; (repeat rw [if_neg (by omega)]); rw [if_pos (by omega)]
      rw [e]
      go_enter Tryz.func59, Tryz.ntmps59
      go_wp2_with fail
      go_ret
      exact ⟨rfl, rfl⟩
     ·have d4 : decide ((i : Int) < 16) = false := by simp; omega
      by_cases h5 : i < 22
      ·have d5 : decide ((i : Int) < 22) = true := by simp; omega
       have e : boxF i = 2147483648 := by unfold boxF; (repeat rw [if_neg (by omega)]); rw [if_pos (by omega)]
       rw [e]
       go_enter Tryz.func59, Tryz.ntmps59
       go_wp2_with fail
       go_ret
       exact ⟨rfl, rfl⟩
      ·have d5 : decide ((i : Int) < 22) = false := by simp; omega
       have e : boxF i = 137438953472 := by unfold boxF; (repeat rw [if_neg (by omega)])
       rw [e]
       go_enter Tryz.func59, Tryz.ntmps59
       go_wp2_with fail
       go_ret
       exact ⟨rfl, rfl⟩
end Go.Proofs.YtgfklheepkgedaaGreat
/- Contracts of the reference's estimate (2): Good, Keep, Add. -/
namespace Go.Proofs.YtgfklheepkgedaaGreat
open Go.RowKit
set_option maxRecDepth 100000
set_option maxHeartbeats 8000000 in
theorem rkeep16_any (c : Addr) (h : Bool) (S : Nat → Int) (w : World) (hc : w.cell? c = some (.bool h)) (hf : w.frozen? c = false) :
  Calls Tryz.prog 27 #[.pointer (some c), .agg (arrv 24 S)] w fun e w' => e = .returned (.agg (arrv 24 (keepF S))) ∧ Upd c (h || keepH S) w w' := by
 have hcb := World.block_lt_of_cell? w c hc
 have S0 : Hid (KpR c h S w ((w.alloc (.cells (arrv 24 S) 23)).alloc (.cells #[.int .i64 0, .int .i64 0, .int .i64 0, .int .i64 0, .int .i64 0, .int .i64 0, .int .i64 0, .int .i64 0, .int .i64 0, .int .i64 0, .int .i64 0, .int .i64 0, .int .i64 0, .int .i64 0, .int .i64 0, .int .i64 0, .int .i64 0, .int .i64 0, .int .i64 0, .int .i64 0, .int .i64 0, .int .i64 0, .int .i64 0, .int .i64 0] 23))) := Lib.hid
  ⟨Upd.then (Upd.refl hc) (by (repeat (first | with_reducible exact Below.refl _ _ | with_reducible apply Below.drew | (with_reducible refine below_drewN ?_ _) | (with_reducible refine Below.alloc ?_ (by (try simp) <;> omega) _) | (with_reducible refine Below.setCell ?_ (by (try simp) <;> omega) _)))), (Blk.new w _ 24 _).alloc _, by rw [zvec24]; exact Blk.new1 w _ _ 24 _⟩
 have HC := Lib.hid hc
 have HF := Lib.hid hf
 clear hc hf
 go_enter Tryz.func27, Tryz.ntmps27
 go_upto_region 1 with fail
 generalize (w.alloc (.cells (arrv 24 S) 23)).alloc (.cells #[.int .i64 0, .int .i64 0, .int .i64 0, .int .i64 0, .int .i64 0, .int .i64 0, .int .i64 0, .int .i64 0, .int .i64 0, .int .i64 0, .int .i64 0, .int .i64 0, .int .i64 0, .int .i64 0, .int .i64 0, .int .i64 0, .int .i64 0, .int .i64 0, .int .i64 0, .int .i64 0, .int .i64 0, .int .i64 0, .int .i64 0, .int .i64 0] 23) = W0 at *
 have P0 := S0.out.blk
 go_upto_region 2 with (first | (refine wpList_load_row rfl 23 _ rfl (w.heap.size) rfl 23 _ (0, 0) _ (P0) Tryz.underlying23 rfl (ist.trans (by rw [arrv_size])) ?_) | (go_at_call 32; (refine (ratt_any S _).mono ?_); rintro e w1 ⟨rfl, hb1⟩; have S1 := Lib.hid (S0.out.down hb1); have R1 : Blk (w1.alloc (.cells #[.int .i64 0, .int .i64 0, .int .i64 0, .int .i64 0] 43)) w1.heap.size 43 4 (fun _ => 0) := (by rw [zq4]; exact Blk.new _ _ 4 _); clear hb1) | (refine wpList_store_row rfl 43 _ _ rfl (w1.heap.size) _ rfl rfl 43 _ (R1) (irq.trans (by rw [arrv_size])) (by rw [arrv_size, arrv_size]) (oneCell_arrv _ _) ?_))
 have hq0 : w.heap.size + 1 < w1.heap.size := S1.out.res.lt
 have S2 := Lib.hid (S1.out.down (below_row ((Below.refl w1.heap.size w1).alloc (Nat.le_refl _) (.cells #[.int .i64 0, .int .i64 0, .int .i64 0, .int .i64 0] 43)) (Nat.le_refl _) (arrv 4 S)))
 have Q2 := Lib.hid (R1.setRow S)
 obtain ⟨bq, hbq⟩ : ∃ x, w1.heap.size = x := ⟨_, rfl⟩
 generalize (w1.alloc (.cells #[.int .i64 0, .int .i64 0, .int .i64 0, .int .i64 0] 43)).setRow w1.heap.size (arrv 4 S) = W2 at *
 rw [hbq] at Q2 hq0 ⊢
 clear R1 hbq S1 P0 S0
 have q2 := Q2.out
 by_cases hu : unitB S = true
 ·go_upto_region 4 with (first | (refine wpList_load_row rfl 43 _ rfl (bq) rfl 43 _ (0, 0) _ (q2) Tryz.underlying43 rfl (irq.trans (by rw [arrv_size])) ?_) | (go_at_call 56; (refine (rnear_any S _).mono ?_); rintro e w3 ⟨rfl, hb3⟩; (rw [hu]); have S5 := Lib.hid (S2.out.down hb3); clear hb3))
  obtain ⟨T, hT⟩ : ∃ T, S = T := ⟨_, rfl⟩
  obtain ⟨H1, hH1⟩ : ∃ y, h = y := ⟨_, rfl⟩
  have E := Lib.hid (show keepF S = clmF T ∧ (h || keepH S) = (H1 || orB (clmP T) 20) by rw [← hT, ← hH1]; unfold keepF keepH keepI clmH; rw [if_pos hu, if_pos hu, Bool.false_or]; exact ⟨rfl, rfl⟩)
  have S6 : Hid (KpR c H1 T w w3) := by rw [← hT, ← hH1]; exact S5
  clear S5
  clear hT hH1 hu q2 Q2 S2
  go_wp2_with fail
  go_loopw [6] (fun i wr => ∃ k : Nat, k ≤ 20 ∧ i = .int .i64 ((4 + k : Nat) : Int) ∧ Hid (KpR c (H1 || orB (clmP T) k) (clmI T k) w wr)) (fun i _ => 24 - (intOf i).toNat)
  case atStart => exact ⟨0, by omega, rfl, Lib.hid (by rw [show (H1 || orB (clmP T) 0) = H1 from by simp [orB], show clmI T 0 = T from by funext i; simp only [clmI, clmF]; split <;> rfl]; exact S6.out)⟩
  case round =>
   obtain ⟨k, hk, rfl, R⟩ := hrel
   clear S6
   by_cases hlt : k < 20
   ·obtain ⟨i, hi⟩ : ∃ i : Nat, 4 + k = i := ⟨_, rfl⟩
    rw [hi]
    have hi24 : i < 24 := by omega
    have d1 : decide ((i : Int) < 24) = true := by simp; omega
    have k0 : (0 : Int) ≤ (i : Int) := Int.natCast_nonneg _
    have k1 : (i : Int) < 24 := by omega
    have hM := boxF_bd i
    have b0 := R.out.blk.cell (i := i) hi24
    rw [show clmI T k i = T i from by unfold clmI; rw [if_neg (by omega)]] at b0
    have BC := Lib.hid (fun (x : World) => rbound_any i x hi24)
    obtain ⟨H2, hH2⟩ : ∃ y, (H1 || orB (clmP T) k) = y := ⟨_, rfl⟩
    rw [hH2] at R
    have EV := Lib.hid (show clmF T i = clampV (T i) (-(boxF i)) (boxF i) ∧ clmP T k = clampH (T i) (-(boxF i)) (boxF i) from ⟨by unfold clmF; rw [if_neg (by omega)], by unfold clmP; rw [hi]⟩)
    obtain ⟨M, hMe⟩ : ∃ M, boxF i = M := ⟨_, rfl⟩
    rw [hMe] at hM BC EV
    have hneg := neg_in M (by omega)
    have CL := Lib.hid (rclamp_any c H2 (T i) (-M) M wr.drew (by exact R.out.upd.cellc HC.out) (by exact (R.out.upd.frozen hcb).trans HF.out))
    obtain ⟨CV, hCV⟩ : ∃ y, clampV (T i) (-M) M = y := ⟨_, rfl⟩
    obtain ⟨CH, hCH⟩ : ∃ y, clampH (T i) (-M) M = y := ⟨_, rfl⟩
    rw [hCV, hCH] at CL EV
    have EK := Lib.hid (And.intro hH2 hi)
    obtain ⟨x, hx⟩ : ∃ x, T i = x := ⟨_, rfl⟩
    rw [hx] at b0 CL
    have RD := Lib.hid (KpR.mk (w := w) R.out.upd.drew R.out.blk R.out.res)
    have R1 := Lib.hid R.out.blk
    clear R hH2 hMe hM hCV hCH hx hi
    go_upto_region 7 with fail
    refine wp_region_M (fun w' => w'.cell? ⟨w.heap.size, i, none⟩ = some (.int .i64 x)) 14 (by kernel_rfl) ?_ (fun hHeld => ?_)
    ·exact b0
    refine tk 0 ?_
    (try simp only [Act.put, nA, nB, nC])
    refine tk 1 ?_
    (try simp only [Act.put, nA, nB, nC])
    refine tk 2 ?_
    (try simp only [Act.put, nA, nB, nC])
    refine tk 3 ?_
    (try simp only [Act.put, nA, nB, nC])
    refine tk 4 ?_
    (try simp only [Act.put, nA, nB, nC])
    refine tl 5 (v := ?_) ?_ ?_
    rotate_left
    ·(intro wx hSw; (try dsimp only at hSw); go_simp; (first | rw [if_pos (by omega)] | rw [if_pos ⟨by omega, by omega⟩] | skip); (try with_reducible rfl))
    (try simp only [Act.put, nA, nB, nC])
    refine tk 6 ?_
    (try simp only [Act.put, nA, nB, nC])
    refine tk 7 ?_
    (try simp only [Act.put, nA, nB, nC])
    refine tk 10 ?_
    (try simp only [Act.put, nA, nB, nC])
    refine wpAnyM_oneS 8 rfl (by kernel_rfl) (fun K hK => ?_)
    go_simp
    (refine (BC.out _).mono ?_); rintro e w5 ⟨rfl, rfl⟩
    (try dsimp only)
    (try simp only [Act.put, nA, nB, nC])
    clear hHeld
    refine hK.out _ _ ?_ (fun hHeld => ?_)
    ·exact b0
    clear hK K
    (try simp only [Act.put, nA, nB, nC])
    refine tl 9 (v := ?_) ?_ ?_
    rotate_left
    ·(intro wx hSw; go_simp; (try rw [hneg]); (try with_reducible rfl))
    (try simp only [Act.put, nA, nB, nC])
    refine wpAnyM_oneS 11 rfl (by kernel_rfl) (fun K hK => ?_)
    go_simp
    (refine (BC.out _).mono ?_); rintro e w6 ⟨rfl, rfl⟩
    (try dsimp only)
    (try simp only [Act.put, nA, nB, nC])
    clear hHeld
    refine hK.out _ _ ?_ (fun hHeld => ?_)
    ·exact b0
    clear hK K
    (try simp only [Act.put, nA, nB, nC])
    refine wpAnyM_oneS 12 rfl (by kernel_rfl) (fun K hK => ?_)
    go_simp
    (refine CL.out.mono ?_); rintro e w7 ⟨rfl, hw7⟩; have R3 := Lib.hid (RD.out.upd' hcb ((Upd.set c (H2 || CH) wr.drew).then (by rw [hw7]; exact Below.refl _ _))); have b1 : w7.cell? ⟨w.heap.size, i, none⟩ = some (.int .i64 x) := (by subst hw7; exact (World.cell?_setCell_other wr.drew c ⟨w.heap.size, i, none⟩ _ (fun e => by rw [e] at hcb; simp at hcb)).trans b0); have b2 := R3.out.blk.free i; clear hw7
    (try dsimp only)
    (try simp only [Act.put, nA, nB, nC])
    clear hHeld
    refine hK.out _ _ ?_ (fun hHeld => ?_)
    ·exact b1
    clear hK K
    (try simp only [Act.put, nA, nB, nC])
    refine tl 13 (v := ?_) ?_ ?_
    rotate_left
    ·(intro wx hSw; (try dsimp only at hSw); go_simp; (first | rw [if_pos (by omega)] | rw [if_pos ⟨by omega, by omega⟩] | skip); (try with_reducible rfl))
    (try simp only [Act.put, nA, nB, nC])
    refine wpAnyM_one 14 rfl (by kernel_rfl) (fun K hK => ?_)
    go_simp
    refine hK.out _ _ (.inl (by kernel_rfl)) (fun _ => ?_)
    clear hK K
    (try simp only [Act.put, nA, nB, nC])
    refine wpAnyM_done (by kernel_rfl) ?_ _
    (try clear hHeld)
    go_wp2_with fail
    go_roundw
    case rel =>
     refine ⟨k + 1, by omega, by rw [← EK.out.2]; go_num, Lib.hid ⟨?_, ?_, R3.out.res.other (by simp) _⟩⟩
     ·rw [show (H1 || orB (clmP T) (k + 1)) = (H2 || CH) from by rw [← EK.out.1, ← EV.out.2]; simp [orB, Bool.or_assoc]]
      exact R3.out.upd.setCell (Nat.le_refl _) _
     ·refine (R3.out.blk.set _ _).congr fun j hj => ?_
      have hk4 := EK.out.2
      simp only [Go.Proofs.YtgfklheepkgedaaGreat.upd, clmI]
      by_cases h1 : j = i
      ·subst h1; rw [if_pos rfl, if_pos (by omega), EV.out.1]
      ·rw [if_neg h1]; split <;> split <;> first | rfl | omega
    case measure => simp [intOf]; omega
   ·have hk20 : k = 20 := by omega
    subst hk20
    rw [show ((4 + 20 : Nat) : Int) = 24 from rfl]
    have B0 := R.out.blk
    have B1 := R.out.res
    have U := Lib.hid R.out.upd
    clear R hlt hk
    go_wp2_with (first | (refine wpList_load_row rfl 23 _ rfl (w.heap.size) rfl 23 _ (0, 0) _ (B0) Tryz.underlying23 rfl (ist.trans (by rw [arrv_size])) ?_) | (refine wpList_store_row rfl 23 _ _ rfl (w.heap.size + 1) _ rfl rfl 23 _ (B1) (ist.trans (by rw [arrv_size])) (by rw [arrv_size, arrv_size]) (oneCell_arrv _ _) ?_))
    refine bodyPost_ret (results_cell_row Tryz.results27 _ _ (w.heap.size + 1) 23 (arrv 24 (clmI T 20)) (0, 0) _ rfl (setRow_heap _ _ _ _ _ _ B1) Tryz.underlying23 rfl (ist.trans (by rw [arrv_size]))) rfl ⟨?_, ?_⟩
    ·rw [E.out.1]
     exact congrArg (fun x => Ending.returned (Value.agg x)) (arrv_congr fun i hi => by unfold clmI; rw [if_pos (by omega)])
    ·rw [E.out.2]
     exact U.out.then' (below_row (Below.refl _ _) (by omega) _)
 ·have hu2 : unitB S = false := by simpa using hu
  obtain ⟨T, hT⟩ : ∃ T, turnd S (uniV S) = T := ⟨_, rfl⟩
  obtain ⟨H1, hH1⟩ : ∃ y, (h || uniH S) = y := ⟨_, rfl⟩
  have E := Lib.hid (show keepF S = clmF T ∧ (h || keepH S) = (H1 || orB (clmP T) 20) by rw [← hH1]; unfold keepF keepH keepI clmH; rw [if_neg hu, if_neg hu, hT, ← Bool.or_assoc]; exact ⟨rfl, rfl⟩)
  have HT := Lib.hid (And.intro hT hH1)
  clear hT hH1 hu
  go_upto_region 3 with (first | (refine wpList_load_row rfl 43 _ rfl (bq) rfl 43 _ (0, 0) _ (q2) Tryz.underlying43 rfl (irq.trans (by rw [arrv_size])) ?_) | (go_at_call 56; (refine (rnear_any S _).mono ?_); rintro e w3 ⟨rfl, hb3⟩; (rw [hu2]); have S3 := Lib.hid (S2.out.down hb3); have Q3 := Lib.hid (Q2.out.below hb3); clear hb3))
  clear q2 Q2 S2 hu2
  refine wp_region_M (fun w' => Blk w' w.heap.size 23 24 S ∧ Blk w' bq 43 4 S) 5 (by kernel_rfl) ?_ (fun hHeld => ?_)
  ·exact ⟨S3.out.blk, Q3.out⟩
  refine tl 0 (v := ?_) ?_ ?_
  rotate_left
  ·(intro wx hSw; refine Eq.trans (run_load_row 23 (.tmp 3) (by rfl) (w.heap.size) (by rfl) _ _ _ _ (hSw.1) Tryz.underlying23 rfl (ist.trans (by rw [arrv_size]))) ?_; with_reducible rfl)
  (try simp only [Act.put, nA, nB, nC])
  refine tk 1 ?_
  (try simp only [Act.put, nA, nB, nC])
  refine tl 2 (v := ?_) ?_ ?_
  rotate_left
  ·(intro wx hSw; refine Eq.trans (run_load_row 43 (.tmp 5) (by rfl) (bq) (by rfl) _ _ _ _ (hSw.2) Tryz.underlying43 rfl (irq.trans (by rw [arrv_size]))) ?_; with_reducible rfl)
  (try simp only [Act.put, nA, nB, nC])
  refine wpAnyM_oneS 3 rfl (by kernel_rfl) (fun K hK => ?_)
  go_simp
  (refine (rqunit_any c h S w3.drew (by exact S3.out.upd.cellc HC.out) (by exact (S3.out.upd.frozen hcb).trans HF.out)).mono ?_); rintro e w4 ⟨rfl, hu4⟩; have S4 := Lib.hid (S3.out.drew.upd' hcb hu4); have Q4 := Lib.hid (Blk.upd (w := w3.drew) Q3.out hu4 (by omega)); clear hu4
  (try dsimp only)
  (try simp only [Act.put, nA, nB, nC])
  clear hHeld
  refine hK.out _ _ ?_ (fun hHeld => ?_)
  ·exact ⟨S4.out.blk, Q4.out⟩
  clear hK K
  (try simp only [Act.put, nA, nB, nC])
  refine wpAnyM_oneS 4 rfl (by kernel_rfl) (fun K hK => ?_)
  go_simp
  (refine (rturn_any S (uniV S) _).mono ?_); rintro e w5 ⟨rfl, hb5⟩; have S5 := Lib.hid (S4.out.down hb5); have Q5 := Lib.hid (Q4.out.below hb5); clear hb5; (rw [HT.out.1]); have P5 := S5.out.blk
  (try dsimp only)
  (try simp only [Act.put, nA, nB, nC])
  clear hHeld
  refine hK.out _ _ ?_ (fun hHeld => ?_)
  ·exact ⟨S5.out.blk, Q5.out⟩
  clear hK K
  (try simp only [Act.put, nA, nB, nC])
  refine wpAnyM_one 5 rfl (by kernel_rfl) (fun K hK => ?_)
  go_simp; rw [if_pos (arrv_size _ _), run_storeCells_row _ P5]; go_simp
  refine hK.out _ _ (.inl (by kernel_rfl)) (fun _ => ?_)
  clear hK K
  (try simp only [Act.put, nA, nB, nC])
  refine wpAnyM_done (by kernel_rfl) ?_ _
  (try clear hHeld)
  have S6 : Hid (KpR c H1 T w (w5.setRow w.heap.size (arrv 24 T))) := Lib.hid (by rw [← HT.out.2]; exact S5.out.row T)
  generalize w5.setRow w.heap.size (arrv 24 T) = W6 at *
  clear S3 Q3 S4 Q4 S5 Q5 P5 HT
  go_wp2_with fail
  go_loopw [6] (fun i wr => ∃ k : Nat, k ≤ 20 ∧ i = .int .i64 ((4 + k : Nat) : Int) ∧ Hid (KpR c (H1 || orB (clmP T) k) (clmI T k) w wr)) (fun i _ => 24 - (intOf i).toNat)
  case atStart => exact ⟨0, by omega, rfl, Lib.hid (by rw [show (H1 || orB (clmP T) 0) = H1 from by simp [orB], show clmI T 0 = T from by funext i; simp only [clmI, clmF]; split <;> rfl]; exact S6.out)⟩
  case round =>
   obtain ⟨k, hk, rfl, R⟩ := hrel
   clear S6
   by_cases hlt : k < 20
   ·obtain ⟨i, hi⟩ : ∃ i : Nat, 4 + k = i := ⟨_, rfl⟩
    rw [hi]
    have hi24 : i < 24 := by omega
    have d1 : decide ((i : Int) < 24) = true := by simp; omega
    have k0 : (0 : Int) ≤ (i : Int) := Int.natCast_nonneg _
    have k1 : (i : Int) < 24 := by omega
    have hM := boxF_bd i
    have b0 := R.out.blk.cell (i := i) hi24
    rw [show clmI T k i = T i from by unfold clmI; rw [if_neg (by omega)]] at b0
    have BC := Lib.hid (fun (x : World) => rbound_any i x hi24)
    obtain ⟨H2, hH2⟩ : ∃ y, (H1 || orB (clmP T) k) = y := ⟨_, rfl⟩
    rw [hH2] at R
    have EV := Lib.hid (show clmF T i = clampV (T i) (-(boxF i)) (boxF i) ∧ clmP T k = clampH (T i) (-(boxF i)) (boxF i) from ⟨by unfold clmF; rw [if_neg (by omega)], by unfold clmP; rw [hi]⟩)
    obtain ⟨M, hMe⟩ : ∃ M, boxF i = M := ⟨_, rfl⟩
    rw [hMe] at hM BC EV
    have hneg := neg_in M (by omega)
    have CL := Lib.hid (rclamp_any c H2 (T i) (-M) M wr.drew (by exact R.out.upd.cellc HC.out) (by exact (R.out.upd.frozen hcb).trans HF.out))
    obtain ⟨CV, hCV⟩ : ∃ y, clampV (T i) (-M) M = y := ⟨_, rfl⟩
    obtain ⟨CH, hCH⟩ : ∃ y, clampH (T i) (-M) M = y := ⟨_, rfl⟩
    rw [hCV, hCH] at CL EV
    have EK := Lib.hid (And.intro hH2 hi)
    obtain ⟨x, hx⟩ : ∃ x, T i = x := ⟨_, rfl⟩
    rw [hx] at b0 CL
    have RD := Lib.hid (KpR.mk (w := w) R.out.upd.drew R.out.blk R.out.res)
    have R1 := Lib.hid R.out.blk
    clear R hH2 hMe hM hCV hCH hx hi
    go_upto_region 7 with fail
    refine wp_region_M (fun w' => w'.cell? ⟨w.heap.size, i, none⟩ = some (.int .i64 x)) 14 (by kernel_rfl) ?_ (fun hHeld => ?_)
    ·exact b0
    refine tk 0 ?_
    (try simp only [Act.put, nA, nB, nC])
    refine tk 1 ?_
    (try simp only [Act.put, nA, nB, nC])
    refine tk 2 ?_
    (try simp only [Act.put, nA, nB, nC])
    refine tk 3 ?_
    (try simp only [Act.put, nA, nB, nC])
    refine tk 4 ?_
    (try simp only [Act.put, nA, nB, nC])
    refine tl 5 (v := ?_) ?_ ?_
    rotate_left
    ·(intro wx hSw; (try dsimp only at hSw); go_simp; (first | rw [if_pos (by omega)] | rw [if_pos ⟨by omega, by omega⟩] | skip); (try with_reducible rfl))
    (try simp only [Act.put, nA, nB, nC])
    refine tk 6 ?_
    (try simp only [Act.put, nA, nB, nC])
    refine tk 7 ?_
    (try simp only [Act.put, nA, nB, nC])
    refine tk 10 ?_
    (try simp only [Act.put, nA, nB, nC])
    refine wpAnyM_oneS 8 rfl (by kernel_rfl) (fun K hK => ?_)
    go_simp
    (refine (BC.out _).mono ?_); rintro e w5 ⟨rfl, rfl⟩
    (try dsimp only)
    (try simp only [Act.put, nA, nB, nC])
    clear hHeld
    refine hK.out _ _ ?_ (fun hHeld => ?_)
    ·exact b0
    clear hK K
    (try simp only [Act.put, nA, nB, nC])
    refine tl 9 (v := ?_) ?_ ?_
    rotate_left
    ·(intro wx hSw; go_simp; (try rw [hneg]); (try with_reducible rfl))
    (try simp only [Act.put, nA, nB, nC])
    refine wpAnyM_oneS 11 rfl (by kernel_rfl) (fun K hK => ?_)
    go_simp
    (refine (BC.out _).mono ?_); rintro e w6 ⟨rfl, rfl⟩
    (try dsimp only)
    (try simp only [Act.put, nA, nB, nC])
    clear hHeld
    refine hK.out _ _ ?_ (fun hHeld => ?_)
    ·exact b0
    clear hK K
    (try simp only [Act.put, nA, nB, nC])
    refine wpAnyM_oneS 12 rfl (by kernel_rfl) (fun K hK => ?_)
    go_simp
    (refine CL.out.mono ?_); rintro e w7 ⟨rfl, hw7⟩; have R3 := Lib.hid (RD.out.upd' hcb ((Upd.set c (H2 || CH) wr.drew).then (by rw [hw7]; exact Below.refl _ _))); have b1 : w7.cell? ⟨w.heap.size, i, none⟩ = some (.int .i64 x) := (by subst hw7; exact (World.cell?_setCell_other wr.drew c ⟨w.heap.size, i, none⟩ _ (fun e => by rw [e] at hcb; simp at hcb)).trans b0); have b2 := R3.out.blk.free i; clear hw7
    (try dsimp only)
    (try simp only [Act.put, nA, nB, nC])
    clear hHeld
    refine hK.out _ _ ?_ (fun hHeld => ?_)
    ·exact b1
    clear hK K
    (try simp only [Act.put, nA, nB, nC])
    refine tl 13 (v := ?_) ?_ ?_
    rotate_left
    ·(intro wx hSw; (try dsimp only at hSw); go_simp; (first | rw [if_pos (by omega)] | rw [if_pos ⟨by omega, by omega⟩] | skip); (try with_reducible rfl))
    (try simp only [Act.put, nA, nB, nC])
    refine wpAnyM_one 14 rfl (by kernel_rfl) (fun K hK => ?_)
    go_simp
    refine hK.out _ _ (.inl (by kernel_rfl)) (fun _ => ?_)
    clear hK K
    (try simp only [Act.put, nA, nB, nC])
    refine wpAnyM_done (by kernel_rfl) ?_ _
    (try clear hHeld)
    go_wp2_with fail
    go_roundw
    case rel =>
     refine ⟨k + 1, by omega, by rw [← EK.out.2]; go_num, Lib.hid ⟨?_, ?_, R3.out.res.other (by simp) _⟩⟩
     ·rw [show (H1 || orB (clmP T) (k + 1)) = (H2 || CH) from by rw [← EK.out.1, ← EV.out.2]; simp [orB, Bool.or_assoc]]
      exact R3.out.upd.setCell (Nat.le_refl _) _
     ·refine (R3.out.blk.set _ _).congr fun j hj => ?_
      have hk4 := EK.out.2
      simp only [Go.Proofs.YtgfklheepkgedaaGreat.upd, clmI]
      by_cases h1 : j = i
      ·subst h1; rw [if_pos rfl, if_pos (by omega), EV.out.1]
      ·rw [if_neg h1]; split <;> split <;> first | rfl | omega
    case measure => simp [intOf]; omega
   ·have hk20 : k = 20 := by omega
    subst hk20
    rw [show ((4 + 20 : Nat) : Int) = 24 from rfl]
    have B0 := R.out.blk
    have B1 := R.out.res
    have U := Lib.hid R.out.upd
    clear R hlt hk
    go_wp2_with (first | (refine wpList_load_row rfl 23 _ rfl (w.heap.size) rfl 23 _ (0, 0) _ (B0) Tryz.underlying23 rfl (ist.trans (by rw [arrv_size])) ?_) | (refine wpList_store_row rfl 23 _ _ rfl (w.heap.size + 1) _ rfl rfl 23 _ (B1) (ist.trans (by rw [arrv_size])) (by rw [arrv_size, arrv_size]) (oneCell_arrv _ _) ?_))
    refine bodyPost_ret (results_cell_row Tryz.results27 _ _ (w.heap.size + 1) 23 (arrv 24 (clmI T 20)) (0, 0) _ rfl (setRow_heap _ _ _ _ _ _ B1) Tryz.underlying23 rfl (ist.trans (by rw [arrv_size]))) rfl ⟨?_, ?_⟩
    ·rw [E.out.1]
     exact congrArg (fun x => Ending.returned (Value.agg x)) (arrv_congr fun i hi => by unfold clmI; rw [if_pos (by omega)])
    ·rw [E.out.2]
     exact U.out.then' (below_row (Below.refl _ _) (by omega) _)
end Go.Proofs.YtgfklheepkgedaaGreat
