/- Contracts of the program's functions and plain laws, part 22: they hold for all arguments. -/
import Derived.Test.YtgfklheepkgedaaGreatQ21
import Derived.Test.YtgfklheepkgedaaGreatQ07
import Derived.Test.YtgfklheepkgedaaGreatQ12
import Derived.Test.YtgfklheepkgedaaGreatQ04
/- The reference's Step, for all arguments, with the program's flag. -/
namespace Go.Proofs.YtgfklheepkgedaaGreat
open Go.RowKit
set_option maxRecDepth 100000
/-- The flags are the same, told in another order. -/
theorem rs_flags (f F q : Nat → Int) : (condH f || orB (fun k => qH (q k)) 24 || orB (rrH (condF f) F (fS F 24 0)) 24 || HN (stepW f F) (stepE f q) 24) = stepH f F q := by
 have e1 : loop1H q F 24 = (orB (fun k => qH (q k)) 24 || orB (fun i => orB (fun k => satH (F (i * 24 + k))) 24) 24) := by
  unfold loop1H; rw [orB_or]; rfl
 have e2 : orB (rrH (condF f) F (fS F 24 0)) 24 = (orB (fun i => orB (fun k => satH (F (i * 24 + k))) 24) 24 || rowsH (condF f) (fS F 24 0)) := by
  unfold rrH rowsH rwH
  rw [orB_or]
  exact congrArg _ (orB_swap _ 24 24)
 unfold stepH
 rw [e1, e2]
 simp only [Bool.or_assoc]
/-- The reference's Step, as the program's. -/
theorem rstep_all (c : Addr) (h : Bool) (f F q : Nat → Int) (fb TF : Nat) (w : World) (hc : w.cell? c = some (.bool h)) (hf : w.frozen? c = false) (hFB : Blk w fb TF 576 F) :
  Calls Tryz.prog 70 #[.pointer (some c), .agg (arrv 300 f), .pointer (some ⟨fb, 0, none⟩), .agg (arrv 24 q)] w fun e w' =>
   e = .returned (.agg (arrv 300 (stepF f F q))) ∧ Upd c (h || stepH f F q) w w' := by
 refine (rstep_any c h f F q fb TF w hc hf hFB).mono ?_
 rintro e w' ⟨H, rfl, hu, hH⟩
 rw [rs_flags] at hH
 rw [hH] at hu
 exact ⟨rfl, hu⟩
theorem ig24 : (Tryz.prog.info? 95).map (·.size) = some 576 := by kernel_rfl
end Go.Proofs.YtgfklheepkgedaaGreat
/- Contracts of the reference's block: Unit, Reset. -/
namespace Go.Proofs.YtgfklheepkgedaaGreat
open Go.RowKit
set_option maxRecDepth 100000
/-- The reference's flags, state by state, are the program's, number by number. -/
def rkB (fr : Int) (n : Nat) (L : Nat → Int) (i : Nat) : Bool := if rtR fr n i = true then varH (L ((i : Int) - fr).toNat) else false
theorem rkB_all (fr : Int) (n : Nat) (L : Nat → Int) : orB (rkB fr n L) 24 = orB (rtB fr L) n := by
 rw [Bool.eq_iff_iff, orB_iff, orB_iff]
 constructor
 ·rintro ⟨i, hi, h⟩
  unfold rkB at h
  split at h
  ·rename_i hr
   unfold rtR at hr
   rw [decide_eq_true_eq] at hr
   refine ⟨((i : Int) - fr).toNat, by omega, ?_⟩
   unfold rtB
   rw [if_pos (by unfold rtI; rw [decide_eq_true_eq]; omega)]
   exact h
  ·cases h
 ·rintro ⟨k, hk, h⟩
  unfold rtB at h
  split at h
  ·rename_i hr
   unfold rtI at hr
   rw [decide_eq_true_eq] at hr
   refine ⟨(fr + k).toNat, by omega, ?_⟩
   unfold rkB
   rw [if_pos (by unfold rtR; rw [decide_eq_true_eq]; omega), show ((((fr + k).toNat : Nat) : Int) - fr).toNat = k by omega]
   exact h
  ·cases h
structure UnRk (w : World) (g : Nat → Int) (wr : World) : Prop where
 below : Below w.heap.size w wr
 res : Blk wr w.heap.size 95 576 (fun _ => 0)
 blk : Blk wr (w.heap.size + 1) 95 576 g
theorem runit_any (w : World) :
  Calls Tryz.prog 69 #[] w fun e w' => e = .returned (.agg (arrv 576 oneF)) ∧ Below w.heap.size w w' := by
 go_enter Tryz.func69, Tryz.ntmps69
 go_wp2_with fail
 go_loopw [2] (fun i wr => ∃ k : Nat, k ≤ 24 ∧ i = .int .i64 k ∧ Hid (UnRk w (oneS k) wr)) (fun i _ => 24 - (intOf i).toNat)
 case atStart =>
  refine ⟨0, by omega, rfl, ⟨by (repeat (first | with_reducible exact Below.refl _ _ | with_reducible apply Below.drew | (with_reducible refine below_drewN ?_ _) | (with_reducible refine Below.alloc ?_ (by (try simp) <;> omega) _) | (with_reducible refine Below.setCell ?_ (by (try simp) <;> omega) _))), ?_, ?_⟩⟩
  ·rw [zmat2]; exact (Blk.new w _ _ _).alloc _
  ·rw [zmat2]; exact (Blk.new1 w _ _ _ _).congr fun i hi => by simp [oneS]
 case round =>
  obtain ⟨k, hk, rfl, R⟩ := hrel
  by_cases hlt : k < 24
  ·have b0 := R.out.blk.cell (i := k * 24 + k) (by omega)
   have b1 := R.out.blk.free (k * 24 + k)
   go_wp2_with fail
   go_roundw
   case rel =>
    refine ⟨k + 1, by omega, by go_num, ⟨R.out.below.setCell (by simp) _, R.out.res.other (by simp) _, ?_⟩⟩
    refine (R.out.blk.set _ _).congr fun i hi => ?_
    simp only [Go.Proofs.YtgfklheepkgedaaGreat.upd, oneS]
    by_cases h1 : i = k * 24 + k
    ·subst h1; rw [if_pos rfl, if_pos (by omega)]
    ·rw [if_neg h1]; split <;> split <;> first | rfl | omega
   case measure => simp [intOf]; omega
  ·have hk24 : k = 24 := by omega
   subst hk24
   have B0 := R.out.res
   have B1 := R.out.blk
   have HB := Lib.hid R.out.below
   clear R hlt hk
   rw [show ((24 : Nat) : Int) = 24 from rfl]
   go_wp2_with (first | (refine wpList_load_row rfl 95 _ rfl (w.heap.size + 1) rfl 95 _ (0, 0) _ (B1) Tryz.underlying95 rfl (ig24.trans (by rw [arrv_size])) ?_) | (refine wpList_store_row rfl 95 _ _ rfl (w.heap.size) _ rfl rfl 95 _ (B0) (ig24.trans (by rw [arrv_size])) (by rw [arrv_size, arrv_size]) (oneCell_arrv _ _) ?_))
   refine bodyPost_ret (results_cell_row Tryz.results69 _ _ w.heap.size 95 (arrv 576 (oneS 24)) (0, 0) _ rfl (setRow_heap _ _ _ _ _ _ B0) Tryz.underlying95 rfl (ig24.trans (by rw [arrv_size]))) rfl ⟨?_, ?_⟩
   ·rw [arrv_congr (g := oneF) fun i hi => by simp only [oneS, oneF]; split <;> split <;> first | rfl | omega]
   ·exact below_row HB.out (Nat.le_refl _) _
/-- The reference's blocks: the factors, the answer, the matrix, the noises. -/
structure RkR (c : Addr) (h : Bool) (bf bq : Nat) (f F Q : Nat → Int) (w wr : World) : Prop where
 upd : Upd c h w wr
 pB : Blk wr w.heap.size 26 300 f
 r0 : Blk wr (w.heap.size + 1) 26 300 (fun _ => 0)
 fB : Blk wr bf 95 576 F
 qB : Blk wr bq 22 24 Q
theorem RkR.upd' {c : Addr} {h h' : Bool} {bf bq : Nat} {f F Q : Nat → Int} {w wr w' : World} (s : RkR c h bf bq f F Q w wr) (hc : c.block < w.heap.size) (h1 : w.heap.size + 1 < bf) (h2 : bf < bq) (u : Upd c h' wr w') : RkR c h' bf bq f F Q w w' :=
 ⟨s.upd.trans u, s.pB.upd u (by omega), s.r0.upd u (by omega), s.fB.upd u (by omega), s.qB.upd u (by omega)⟩
theorem RkR.drew {c : Addr} {h : Bool} {bf bq : Nat} {f F Q : Nat → Int} {w wr : World} (s : RkR c h bf bq f F Q w wr) : RkR c h bf bq f F Q w wr.drew := ⟨s.upd.drew, s.pB, s.r0, s.fB, s.qB⟩
theorem RkR.setF {c : Addr} {h : Bool} {bf bq : Nat} {f F Q : Nat → Int} {w wr : World} (s : RkR c h bf bq f F Q w wr) (h1 : w.heap.size + 1 < bf) (h2 : bf < bq) (i : Nat) (x : Int) :
  RkR c h bf bq f (Go.Proofs.YtgfklheepkgedaaGreat.upd F i x) Q w (wr.setCell ⟨bf, i, none⟩ (.int .i64 x)) :=
 ⟨s.upd.setCell (by simp; omega) _, s.pB.other (by simp; omega) _, s.r0.other (by simp; omega) _, s.fB.set _ _, s.qB.other (by simp; omega) _⟩
theorem RkR.setQ {c : Addr} {h : Bool} {bf bq : Nat} {f F Q : Nat → Int} {w wr : World} (s : RkR c h bf bq f F Q w wr) (h1 : w.heap.size + 1 < bf) (h2 : bf < bq) (j : Nat) (y : Int) :
  RkR c h bf bq f F (Go.Proofs.YtgfklheepkgedaaGreat.upd Q j y) w (wr.setCell ⟨bq, j, none⟩ (.int .i64 y)) :=
 ⟨s.upd.setCell (by simp; omega) _, s.pB.other (by simp; omega) _, s.r0.other (by simp; omega) _, s.fB.other (by simp; omega) _, s.qB.set _ _⟩
theorem RkR.congr {c : Addr} {h : Bool} {bf bq : Nat} {f F Q F' Q' : Nat → Int} {w wr : World} (s : RkR c h bf bq f F Q w wr) (hF : ∀ i, i < 576 → F i = F' i) (hQ : ∀ i, i < 24 → Q i = Q' i) : RkR c h bf bq f F' Q' w wr :=
 ⟨s.upd, s.pB, s.r0, s.fB.congr hF, s.qB.congr hQ⟩
/-- Behind m states. -/
def rkF (fr : Int) (n m : Nat) : Nat → Int := rsF fun i => rtR fr n i && decide (i < m)
def rkQ (fr : Int) (n : Nat) (v : Nat → Int) (m : Nat) : Nat → Int := fun i => if rtR fr n i = true ∧ i < m then v ((i : Int) - fr).toNat else 0
theorem rkF_yes {fr : Int} {n m : Nat} (hm : m < 24) (h : rtR fr n m = true) : ∀ i, i < 576 → Go.Proofs.YtgfklheepkgedaaGreat.upd (rkF fr n m) (m * 24 + m) 0 i = rkF fr n (m + 1) i := fun i hi => by
 unfold Go.Proofs.YtgfklheepkgedaaGreat.upd rkF rsF
 by_cases e : i = m * 24 + m
 ·subst e
  rw [if_pos rfl, show (m * 24 + m) / 24 = m by omega, if_neg (by simp [h])]
 ·rw [if_neg e]
  by_cases e2 : i / 24 = i % 24
  ·have : i / 24 ≠ m := by omega
   simp only [e2, true_and]
   rw [show decide (i % 24 < m + 1) = decide (i % 24 < m) from by rw [decide_eq_decide]; omega]
  ·rw [if_neg (by simp [e2]), if_neg (by simp [e2])]
theorem rkF_no {fr : Int} {n m : Nat} (h : rtR fr n m = false) : rkF fr n m = rkF fr n (m + 1) := by
 unfold rkF
 congr 1
 funext i
 by_cases e : i = m
 ·subst e; rw [h]; simp
 ·rw [show decide (i < m + 1) = decide (i < m) from by rw [decide_eq_decide]; omega]
theorem rkF_0 (fr : Int) (n : Nat) : rkF fr n 0 = oneF := by
 funext x
 unfold rkF rsF oneF
 simp
theorem rkF_24 (fr : Int) (n : Nat) : rkF fr n 24 = rtF fr n := by
 rw [rtF_eq]
 unfold rkF
 congr 1
 funext i
 by_cases h : i < 24
 ·simp [h]
 ·have : rtR fr n i = false := by unfold rtR; simp; omega
  rw [this]; simp
theorem rkQ_yes {fr : Int} {n m : Nat} {v : Nat → Int} {x : Int} (h : rtR fr n m = true) (hx : v ((m : Int) - fr).toNat = x) : ∀ i, i < 24 → Go.Proofs.YtgfklheepkgedaaGreat.upd (rkQ fr n v m) m x i = rkQ fr n v (m + 1) i := fun i hi => by
 unfold Go.Proofs.YtgfklheepkgedaaGreat.upd rkQ
 by_cases e : i = m
 ·subst e; rw [if_pos rfl, if_pos ⟨h, by omega⟩, hx]
 ·rw [if_neg e]
  by_cases e2 : rtR fr n i = true ∧ i < m
  ·rw [if_pos e2, if_pos ⟨e2.1, by omega⟩]
  ·rw [if_neg e2, if_neg (fun k => e2 ⟨k.1, by omega⟩)]
theorem rkQ_no {fr : Int} {n m : Nat} {v : Nat → Int} (h : rtR fr n m = false) : rkQ fr n v m = rkQ fr n v (m + 1) := by
 funext i
 unfold rkQ
 by_cases e : i = m
 ·subst e; rw [if_neg (by simp [h]), if_neg (by simp [h])]
 ·by_cases e2 : rtR fr n i = true ∧ i < m
  ·rw [if_pos e2, if_pos ⟨e2.1, by omega⟩]
  ·rw [if_neg e2, if_neg (fun k => e2 ⟨k.1, by omega⟩)]
theorem rkQ_24 (fr : Int) (n : Nat) (L : Nat → Int) : ∀ i, i < 24 → rkQ fr n (fun k => varV (L k)) 24 i = rtQ fr L n i := fun i hi => by
 rw [rtQ_at fr L n i hi]
 unfold rkQ
 by_cases h : rtR fr n i = true
 ·rw [if_pos ⟨h, hi⟩, if_pos h]
 ·rw [if_neg (fun k => h k.1), if_neg h]
set_option maxHeartbeats 8000000 in
theorem rreset_any (c : Addr) (h : Bool) (f : Nat → Int) (fr : Int) (p : Option Addr) (n cp : Nat) (L : Nat → Int) (w : World) (hc : w.cell? c = some (.bool h)) (hf : w.frozen? c = false) (hL : Slc w p n L) (hfr : -900 ≤ fr ∧ fr ≤ 900) (hn : n ≤ 1000) :
  Calls Tryz.prog 33 #[.pointer (some c), .agg (arrv 300 f), .int .i64 fr, .slice p n cp] w fun e w' =>
   e = .returned (.agg (arrv 300 (stepF f (rtF fr n) (rtQ fr L n)))) ∧ Upd c (h || orB (rtB fr L) n || stepH f (rtF fr n) (rtQ fr L n)) w w' := by
 have hcb := World.block_lt_of_cell? w c hc
 have HC := Lib.hid hc
 have HF := Lib.hid hf
 have HL := Lib.hid hL
 clear hc hf hL
 go_enter Tryz.func33, Tryz.ntmps33
 obtain ⟨W0, hW0⟩ : ∃ x, (w.alloc (.cells (arrv 300 f) 26)).alloc (.cells Tryz.zeroCells26 26) = x := ⟨_, rfl⟩
 have P0 : Blk W0 w.heap.size 26 300 f := by rw [← hW0]; exact (Blk.new w _ _ _).alloc _
 have Z0 : Blk W0 (w.heap.size + 1) 26 300 (fun _ => 0) := by rw [← hW0, zcov]; exact Blk.new1 w _ _ _ _
 have U0 : Upd c h w W0 := by rw [← hW0]; exact Upd.then (Upd.refl HC.out) (by (repeat (first | with_reducible exact Below.refl _ _ | with_reducible apply Below.drew | (with_reducible refine below_drewN ?_ _) | (with_reducible refine Below.alloc ?_ (by (try simp) <;> omega) _) | (with_reducible refine Below.setCell ?_ (by (try simp) <;> omega) _))))
 have hz0 := Z0.lt
 go_upto_region 1 with fail
 (try rw [hW0])
 go_upto_region 2 with (first | (go_at_call 69; (refine (runit_any _).mono ?_); rintro e w1 ⟨rfl, hb1⟩; have P1 := Lib.hid (P0.below hb1); have Z1 := Lib.hid (Z0.below hb1); have U1 := Lib.hid (U0.then hb1); have R1 : Blk (w1.alloc (.cells Tryz.zeroCells95 95)) w1.heap.size 95 576 (fun _ => 0) := (by rw [zmat2]; exact Blk.new _ _ _ _); clear hb1) | (refine wpList_store_row rfl 95 _ _ rfl (w1.heap.size) _ rfl rfl 95 _ (R1) (ig24.trans (by rw [arrv_size])) (by rw [arrv_size, arrv_size]) (oneCell_arrv _ _) ?_))
 obtain ⟨w2, hw2⟩ : ∃ x, x = ((w1.alloc (.cells Tryz.zeroCells95 95)).setRow w1.heap.size (arrv 576 oneF)) := ⟨_, rfl⟩
 rw [← hw2]
 obtain ⟨M2, MB⟩ := Blk.made zmat2 oneF hw2
 obtain ⟨bf, hbf⟩ : ∃ x, w1.heap.size = x := ⟨_, rfl⟩
 have h1 : w.heap.size + 1 < bf := by rw [← hbf]; exact Z1.out.lt
 rw [hbf] at M2 ⊢
 have A2 := Lib.hid (And.intro (U1.out.then MB) (And.intro (P1.out.below MB) (And.intro (Z1.out.below MB) M2)))
 clear P0 Z0 U0 hz0 R1 hw2 M2 MB P1 Z1 U1 hW0 hbf
 have RE : Blk (w2.alloc (.cells #[.int .i64 0, .int .i64 0, .int .i64 0, .int .i64 0, .int .i64 0, .int .i64 0, .int .i64 0, .int .i64 0, .int .i64 0, .int .i64 0, .int .i64 0, .int .i64 0, .int .i64 0, .int .i64 0, .int .i64 0, .int .i64 0, .int .i64 0, .int .i64 0, .int .i64 0, .int .i64 0, .int .i64 0, .int .i64 0, .int .i64 0, .int .i64 0] 22)) w2.heap.size 22 24 (fun _ => 0) := by rw [zcol]; exact Blk.new _ _ _ _
 refine wp_region_lit ?_
 refine wpList_val (v := ?_) rfl ?_ ?_
 rotate_left
 ·(go_simp; rw [zcol])
 (try simp only [Act.put, nA, nB, nC])
 refine wpList_act (v := ?_) (w' := ?_) rfl ?_ ?_
 rotate_left 2
 ·(go_simp; (try (first | with_reducible rfl | (constructor <;> with_reducible rfl))))
 (try simp only [Act.put, nA, nB, nC])
 refine wpList_done (w' := ?_) rfl ?_ ?_
 rotate_left
 ·refine Eq.trans (run_store_row 22 (.tmp 10) (.tmp 14) (by rfl) (w2.heap.size) (by rfl) (by rfl) (RE) (icol.trans rfl)) ?_; with_reducible rfl
 (try simp only [Act.put, nA, nB, nC])
 refine wpList_nil ?_
 obtain ⟨bq, hbq⟩ : ∃ x, w2.heap.size = x := ⟨_, rfl⟩
 have h2 : bf < bq := by rw [← hbq]; exact A2.out.2.2.2.lt
 rw [hbq] at RE ⊢
 obtain ⟨vf, hvf⟩ : ∃ x, (fun k => varV (L k)) = x := ⟨_, rfl⟩
 have S3 : Hid (RkR c (h || orB (rkB fr n L) 0) bf bq f (rkF fr n 0) (rkQ fr n vf 0) w ((w2.alloc (.cells #[.int .i64 0, .int .i64 0, .int .i64 0, .int .i64 0, .int .i64 0, .int .i64 0, .int .i64 0, .int .i64 0, .int .i64 0, .int .i64 0, .int .i64 0, .int .i64 0, .int .i64 0, .int .i64 0, .int .i64 0, .int .i64 0, .int .i64 0, .int .i64 0, .int .i64 0, .int .i64 0, .int .i64 0, .int .i64 0, .int .i64 0, .int .i64 0] 22)).setRow bq (arrv 24 (fun _ => 0)))) := by
  obtain ⟨a1, a2, a3, a4⟩ := A2.out
  rw [rkF_0, show (h || orB (rkB fr n L) 0) = h from by simp [orB]]
  refine Lib.hid ⟨(a1.alloc _).then' (below_row (Below.refl _ _) (by omega) _), (a2.alloc _).setRow_other _ (by omega), (a3.alloc _).setRow_other _ (by omega), (a4.alloc _).setRow_other _ (by omega), (RE.setRow _).congr fun i hi => ?_⟩
  unfold rkQ; rw [if_neg (by omega)]
 generalize (w2.alloc (.cells #[.int .i64 0, .int .i64 0, .int .i64 0, .int .i64 0, .int .i64 0, .int .i64 0, .int .i64 0, .int .i64 0, .int .i64 0, .int .i64 0, .int .i64 0, .int .i64 0, .int .i64 0, .int .i64 0, .int .i64 0, .int .i64 0, .int .i64 0, .int .i64 0, .int .i64 0, .int .i64 0, .int .i64 0, .int .i64 0, .int .i64 0, .int .i64 0] 22)).setRow bq (arrv 24 (fun _ => 0)) = W3 at *
 have HV := Lib.hid hvf
 clear RE hbq A2 hvf
 go_wp2_with fail
 go_loopw [11] (fun i wr => ∃ k : Nat, k ≤ 24 ∧ i = .int .i64 k ∧ Hid (RkR c (h || orB (rkB fr n L) k) bf bq f (rkF fr n k) (rkQ fr n vf k) w wr)) (fun i _ => 24 - (intOf i).toNat)
 case atStart => exact ⟨0, by omega, rfl, S3⟩
 case round =>
  obtain ⟨i, hi24, rfl, R⟩ := hrel
  clear S3
  by_cases hi : i < 24
  ·have d0 : decide ((i : Int) < 24) = true := by simp; omega
   have kw : IntKind.i64.wrap ((i : Int) - fr) = (i : Int) - fr := IntWalk.i64_in _ (by omega)
   have g0 : decide (-1000 ≤ fr) = true := by simp; omega
   by_cases hr : rtR fr n i = true
   ·have hr2 : fr ≤ i ∧ (i : Int) < fr + n ∧ i < 24 := by unfold rtR at hr; rwa [decide_eq_true_eq] at hr
    obtain ⟨k, hk⟩ : ∃ k : Nat, (i : Int) - fr = k := ⟨((i : Int) - fr).toNat, by omega⟩
    have hkn : k < n := by omega
    have hkt : ((i : Int) - fr).toNat = k := by omega
    rw [hk] at kw
    obtain ⟨pb, po, rfl, hcell⟩ := HL.out k hkn
    have hne : (⟨pb, po + k, none⟩ : Addr) ≠ c := fun e => by rw [e, HC.out] at hcell; cases hcell
    have hpl := World.block_lt_of_cell? _ _ hcell
    have hcell' : wr.cell? ⟨pb, po + k, none⟩ = some (.int .i64 (L k)) := (R.out.upd.cell hpl (Ne.symm hne)).trans hcell
    go_upto_region 7 with fail
    (try rw [hk]); (try rw [kw])
    have g1 : decide (fr ≤ 24) = true := by simp; omega
    have g2 : decide ((0 : Int) ≤ (k : Int)) = true := by simp
    have g3 : decide ((k : Int) < (n : Int)) = true := by simp; omega
    have g4 : decide (k < n) = true := by simpa using hkn
    have k0 : (0 : Int) ≤ (i : Int) := Int.natCast_nonneg _
    have k1 : (i : Int) < 24 := by omega
    have n0 := R.out.fB.cell (i := i * 24 + i) (by omega)
    have n1 := R.out.fB.free (i * 24 + i)
    obtain ⟨HK, hHK⟩ : ∃ y, (h || orB (rkB fr n L) i) = y := ⟨_, rfl⟩
    rw [hHK] at R
    have R8 := Lib.hid ((R.out.setF h1 h2 (i * 24 + i) 0).congr (rkF_yes hi hr) (fun _ _ => rfl))
    have EK := Lib.hid (And.intro hHK (And.intro hr hkt))
    have HCL := Lib.hid hcell
    clear hHK hr hkt hr2 hcell R kw
    go_upto_region 9 with fail
    generalize wr.setCell ⟨bf, i * 24 + i, none⟩ (.int .i64 0) = W8 at *
    clear n0 n1 hcell'
    have hc8 : W8.cell? ⟨pb, po + k, none⟩ = some (.int .i64 (L k)) := (R8.out.upd.cell hpl (Ne.symm hne)).trans HCL.out
    have vc := rclamp_any c HK (L k) 1 72057594037927936 W8.drew (by exact R8.out.upd.cellc HC.out) (by exact (R8.out.upd.frozen hcb).trans HF.out)
    rw [show clampV (L k) 1 72057594037927936 = varV (L k) from rfl, show clampH (L k) 1 72057594037927936 = varH (L k) from rfl] at vc
    obtain ⟨VV, hVV⟩ : ∃ y, varV (L k) = y := ⟨_, rfl⟩
    obtain ⟨VH, hVH⟩ : ∃ y, varH (L k) = y := ⟨_, rfl⟩
    rw [hVV, hVH] at vc
    have VC := Lib.hid vc
    have EV := Lib.hid (And.intro hVV hVH)
    clear vc hVV hVH g0 g1 g2 g3
    refine wp_region_M (fun w' => w'.cell? ⟨pb, po + k, none⟩ = some (.int .i64 (L k))) 10 (by kernel_rfl) ?_ (fun hHeld => ?_)
    ·exact hc8
    refine tk 0 ?_
    (try simp only [Act.put, nA, nB, nC])
    refine tk 1 ?_
    (try simp only [Act.put, nA, nB, nC])
    refine tk 2 ?_
    (try simp only [Act.put, nA, nB, nC])
    refine tk 3 ?_
    (try simp only [Act.put, nA, nB, nC])
    refine tk 4 ?_
    (try simp only [Act.put, nA, nB, nC])
    refine tk 5 ?_
    (try simp only [Act.put, nA, nB, nC])
    refine tl 6 (v := ?_) ?_ ?_
    rotate_left
    ·(intro wx hSw; (try dsimp only at hSw); go_simp; (first | rw [if_pos (by omega)] | rw [if_pos ⟨by omega, by omega⟩] | skip); (try with_reducible rfl))
    (try simp only [Act.put, nA, nB, nC])
    refine tk 7 ?_
    (try simp only [Act.put, nA, nB, nC])
    refine wpAnyM_oneS 8 rfl (by kernel_rfl) (fun K hK => ?_)
    go_simp
    (refine VC.out.mono ?_); rintro e w6 ⟨rfl, hw6⟩; have R9 := Lib.hid (R8.out.upd' hcb h1 h2 (Upd.after (Below.drew (Below.refl _ _)) ((Upd.set c (HK || VH) W8.drew).then (by rw [hw6]; exact Below.refl _ _)))); have n2 := R9.out.qB.cell (i := i) hi; have n3 := R9.out.qB.free i; have hc9 : w6.cell? ⟨pb, po + k, none⟩ = some (.int .i64 (L k)) := (R9.out.upd.cell hpl (Ne.symm hne)).trans HCL.out; clear hw6
    (try dsimp only)
    (try simp only [Act.put, nA, nB, nC])
    clear hHeld
    refine hK.out _ _ ?_ (fun hHeld => ?_)
    ·exact hc9
    clear hK K
    (try simp only [Act.put, nA, nB, nC])
    refine tl 9 (v := ?_) ?_ ?_
    rotate_left
    ·(intro wx hSw; (try dsimp only at hSw); go_simp; (first | rw [if_pos (by omega)] | rw [if_pos ⟨by omega, by omega⟩] | skip); (try with_reducible rfl))
    (try simp only [Act.put, nA, nB, nC])
    refine wpAnyM_one 10 rfl (by kernel_rfl) (fun K hK => ?_)
    go_simp
    refine hK.out _ _ (.inl (by kernel_rfl)) (fun _ => ?_)
    clear hK K
    (try simp only [Act.put, nA, nB, nC])
    refine wpAnyM_done (by kernel_rfl) ?_ _
    obtain ⟨e1, e2, e3⟩ := EK.out
    have RA := Lib.hid ((R9.out.setQ h1 h2 i VV).congr (fun _ _ => rfl) (rkQ_yes e2 (by rw [e3, ← HV.out]; exact EV.out.1)))
    generalize w6.setCell ⟨bq, i, none⟩ (.int .i64 VV) = WA at *
    clear n2 n3 R9 R8 VC hc8 hc9
    (try clear hHeld)
    go_wp2_with fail
    go_roundw
    case rel =>
     refine ⟨i + 1, by omega, by go_num, ?_⟩
     rw [show (h || orB (rkB fr n L) (i + 1)) = (HK || VH) from by rw [← e1, ← EV.out.2]; simp [orB, rkB, e2, e3, Bool.or_assoc]]
     exact RA
    case measure => simp [intOf]; omega
   ·have hr2 : rtR fr n i = false := by simpa using hr
    have hr3 : ¬ (fr ≤ i ∧ (i : Int) < fr + n ∧ i < 24) := by unfold rtR at hr; simpa using hr
    have RN : Hid (RkR c (h || orB (rkB fr n L) (i + 1)) bf bq f (rkF fr n (i + 1)) (rkQ fr n vf (i + 1)) w wr) := Lib.hid (by
     rw [← rkF_no hr2, ← rkQ_no hr2, show (h || orB (rkB fr n L) (i + 1)) = (h || orB (rkB fr n L) i) from by simp [orB, rkB, hr2]]
     exact R.out)
    clear R hr hr2
    obtain ⟨x, hx⟩ : ∃ x, (i : Int) - fr = x := ⟨_, rfl⟩
    rw [hx] at kw
    go_upto_region 7 with fail
    (try rw [hx]); (try rw [kw])
    by_cases q1 : fr ≤ 24
    ·have g1 : decide (fr ≤ 24) = true := by simpa using q1
     by_cases q2 : 0 ≤ x
     ·have g2 : decide (0 ≤ x) = true := by simpa using q2
      have g3 : decide (x < (n : Int)) = false := by simp; omega
      clear hx kw hr3
      go_wp2_with fail
      go_roundw
      case rel => exact ⟨i + 1, by omega, by go_num, RN⟩
      case measure => simp [intOf]; omega
     ·have g2 : decide (0 ≤ x) = false := by simpa using q2
      clear hx kw hr3
      go_wp2_with fail
      go_roundw
      case rel => exact ⟨i + 1, by omega, by go_num, RN⟩
      case measure => simp [intOf]; omega
    ·have g1 : decide (fr ≤ 24) = false := by simpa using q1
     clear hx kw hr3
     go_wp2_with fail
     go_roundw
     case rel => exact ⟨i + 1, by omega, by go_num, RN⟩
     case measure => simp [intOf]; omega
  ·have hi24 : i = 24 := by omega
   subst hi24
   rw [show ((24 : Nat) : Int) = 24 from rfl]
   rw [rkB_all] at R
   have RF := Lib.hid (R.out.congr (F' := rtF fr n) (Q' := rtQ fr L n) (fun x _ => by rw [rkF_24]) (fun x hx => by rw [← HV.out]; exact rkQ_24 fr n L x hx))
   have P1 := RF.out.pB
   have P2 := RF.out.fB
   have P3 := RF.out.qB
   obtain ⟨HK, hHK⟩ : ∃ y, (h || orB (rtB fr L) n) = y := ⟨_, rfl⟩
   rw [hHK] at RF
   have EH := Lib.hid hHK
   clear R hHK
   have SC := Lib.hid (rstep_all c HK f (rtF fr n) (rtQ fr L n) bf _ wr (RF.out.upd.cellc HC.out) ((RF.out.upd.frozen hcb).trans HF.out) P2)
   go_wp2_with (first | (refine wpList_load_row rfl 26 _ rfl (w.heap.size) rfl 26 _ (0, 0) _ (P1) Tryz.underlying26 rfl (icov.trans (by rw [arrv_size])) ?_) | (refine wpList_load_row rfl 22 _ rfl (bq) rfl 22 _ (0, 0) _ (P3) Tryz.underlying22 rfl (icol.trans (by rw [arrv_size])) ?_) | (go_at_call 70; (refine SC.out.mono ?_); rintro e w8 ⟨rfl, hu8⟩; have Z8 := RF.out.r0.upd hu8 (by omega); have U8 := Lib.hid (RF.out.upd.trans hu8); clear hu8) | (refine wpList_store_row rfl 26 _ _ rfl (w.heap.size + 1) _ rfl rfl 26 _ (Z8) (icov.trans (by rw [arrv_size])) (by rw [arrv_size, arrv_size]) (oneCell_arrv _ _) ?_))
   refine bodyPost_ret (results_cell_row Tryz.results33 _ _ (w.heap.size + 1) 26 (arrv 300 (stepF f (rtF fr n) (rtQ fr L n))) (0, 0) _ rfl (setRow_heap _ _ _ _ _ _ Z8) Tryz.underlying26 rfl (icov.trans (by rw [arrv_size]))) rfl ⟨rfl, ?_⟩
   rw [EH.out]
   exact U8.out.then' (below_row (Below.refl _ _) (by omega) _)
end Go.Proofs.YtgfklheepkgedaaGreat
/- A call's own blocks as a list: what holds of them all, whatever is called between. -/
namespace Go.Proofs.YtgfklheepkgedaaGreat
open Go.RowKit
theorem ls_row_other {w : World} {g : Nat} (cs : Array Value) {p : Addr} (h : p.block ≠ g) : (w.setRow g cs).cell? p = w.cell? p ∧ (w.setRow g cs).frozen? p = w.frozen? p := by
 have e := Go.setRow_other w g p.block cs h
 constructor
 ·simp only [World.cell?, e]
 ·simp only [World.frozen?, e]
/-- A block of numbers: where, of what type, how many, which. -/
structure Lx where
 b : Nat
 T : Nat
 n : Nat
 F : Nat → Int
/-- The flag at c is h; the blocks E lie from w's end to top. -/
structure LsR (c : Addr) (h : Bool) (E : List Lx) (top : Nat) (w wr : World) : Prop where
 upd : Upd c h w wr
 cell : wr.cell? c = some (.bool h)
 free : wr.frozen? c = false
 cb : c.block < w.heap.size
 ex : ∀ e, e ∈ E → Blk wr e.b e.T e.n e.F ∧ w.heap.size ≤ e.b ∧ e.b < top
 lim : w.heap.size ≤ top
 le : top ≤ wr.heap.size
section
variable {c : Addr} {h h' : Bool} {E : List Lx} {top : Nat} {w wr w' : World}
theorem LsR.upd' (s : LsR c h E top w wr) (u : Upd c h' wr w') : LsR c h' E top w w' := by
 have hcb := s.cb
 have hl := s.lim
 exact ⟨s.upd.trans u, u.cellc s.cell, (u.frozen (World.block_lt_of_cell? _ _ s.cell)).trans s.free, s.cb, fun e he => ⟨(s.ex e he).1.upd u (by have := (s.ex e he).2.1; omega), (s.ex e he).2⟩, s.lim, Nat.le_trans s.le u.size⟩
theorem LsR.low (s : LsR c h E top w wr) (u : Below top wr w') (hz : top ≤ w'.heap.size) : LsR c h E top w w' := by
 have hcb := s.cb
 have hl := s.lim
 exact ⟨s.upd.then' (u.mono (by omega)), (u.cell (by omega)).trans s.cell, (u.frozen (by omega)).trans s.free, s.cb, fun e he => ⟨(u.block _ (s.ex e he).2.2).trans (s.ex e he).1, (s.ex e he).2⟩, s.lim, hz⟩
theorem LsR.down (s : LsR c h E top w wr) (u : Below wr.heap.size wr w') : LsR c h E top w w' := s.low (u.mono s.le) (Nat.le_trans s.le u.size)
theorem LsR.drew (s : LsR c h E top w wr) : LsR c h E top w wr.drew := s.down (Below.drew (Below.refl _ _))
theorem LsR.alloc (s : LsR c h E top w wr) (o : Obj) : LsR c h E top w (wr.alloc o) := s.down ((Below.refl _ _).alloc (Nat.le_refl _) o)
/-- One more block, laid at the end. -/
theorem LsR.lay (s : LsR c h E top w wr) (T n : Nat) (F : Nat → Int) : LsR c h (⟨wr.heap.size, T, n, F⟩ :: E) (wr.heap.size + 1) w (wr.alloc (.cells (arrv n F) T)) := by
 have k := s.alloc (.cells (arrv n F) T)
 have hl := s.lim
 have hle := s.le
 refine ⟨k.upd, k.cell, k.free, k.cb, fun e he => ?_, by omega, by simp⟩
 rcases List.mem_cons.1 he with rfl | he
 ·exact ⟨Blk.new _ _ _ _, by simp only; omega, by simp⟩
 ·have := k.ex e he
  exact ⟨this.1, this.2.1, by omega⟩
/-- .. and filled. -/
theorem LsR.put (s : LsR c h E top w wr) (T n : Nat) (G F : Nat → Int) : LsR c h (⟨wr.heap.size, T, n, F⟩ :: E) (wr.heap.size + 1) w ((wr.alloc (.cells (arrv n G) T)).setRow wr.heap.size (arrv n F)) := by
 have hl := s.lim
 have hle := s.le
 have b : Below wr.heap.size wr ((wr.alloc (.cells (arrv n G) T)).setRow wr.heap.size (arrv n F)) := below_row ((Below.refl _ _).alloc (Nat.le_refl _) _) (Nat.le_refl _) _
 have k := s.down b
 refine ⟨k.upd, k.cell, k.free, k.cb, fun e he => ?_, by omega, by rw [setRow_size]; simp⟩
 rcases List.mem_cons.1 he with rfl | he
 ·exact ⟨(Blk.new _ _ _ _).setRow F, by simp only; omega, by simp⟩
 ·have := k.ex e he
  exact ⟨this.1, this.2.1, by omega⟩
theorem LsR.e0 {b T n : Nat} {F : Nat → Int} (s : LsR c h (⟨b, T, n, F⟩ :: E) top w wr) : Blk wr b T n F := (s.ex _ (.head _)).1
theorem LsR.tail {a : Lx} (s : LsR c h (a :: E) top w wr) : LsR c h E top w wr := ⟨s.upd, s.cell, s.free, s.cb, fun e he => s.ex e (.tail _ he), s.lim, s.le⟩
theorem LsR.e1 {a : Lx} {b T n : Nat} {F : Nat → Int} (s : LsR c h (a :: ⟨b, T, n, F⟩ :: E) top w wr) : Blk wr b T n F := s.tail.e0
theorem LsR.e2 {a a2 : Lx} {b T n : Nat} {F : Nat → Int} (s : LsR c h (a :: a2 :: ⟨b, T, n, F⟩ :: E) top w wr) : Blk wr b T n F := s.tail.e1
theorem LsR.e3 {a a2 a3 : Lx} {b T n : Nat} {F : Nat → Int} (s : LsR c h (a :: a2 :: a3 :: ⟨b, T, n, F⟩ :: E) top w wr) : Blk wr b T n F := s.tail.e2
theorem LsR.e4 {a a2 a3 a4 : Lx} {b T n : Nat} {F : Nat → Int} (s : LsR c h (a :: a2 :: a3 :: a4 :: ⟨b, T, n, F⟩ :: E) top w wr) : Blk wr b T n F := s.tail.e3
theorem LsR.e5 {a a2 a3 a4 a5 : Lx} {b T n : Nat} {F : Nat → Int} (s : LsR c h (a :: a2 :: a3 :: a4 :: a5 :: ⟨b, T, n, F⟩ :: E) top w wr) : Blk wr b T n F := s.tail.e4
theorem LsR.e6 {a a2 a3 a4 a5 a6 : Lx} {b T n : Nat} {F : Nat → Int} (s : LsR c h (a :: a2 :: a3 :: a4 :: a5 :: a6 :: ⟨b, T, n, F⟩ :: E) top w wr) : Blk wr b T n F := s.tail.e5
theorem LsR.e7 {a a2 a3 a4 a5 a6 a7 : Lx} {b T n : Nat} {F : Nat → Int} (s : LsR c h (a :: a2 :: a3 :: a4 :: a5 :: a6 :: a7 :: ⟨b, T, n, F⟩ :: E) top w wr) : Blk wr b T n F := s.tail.e6
/-- The first block's row stored. -/
theorem LsR.row {b T n : Nat} {F : Nat → Int} (s : LsR c h (⟨b, T, n, F⟩ :: E) top w wr) (hn : ∀ e, e ∈ E → e.b ≠ b) (G : Nat → Int) : LsR c h (⟨b, T, n, G⟩ :: E) top w (wr.setRow b (arrv n G)) := by
 have h0 := s.ex _ (.head _)
 have hcb := s.cb
 have hb : w.heap.size ≤ b := h0.2.1
 refine ⟨s.upd.then' (below_row (Below.refl _ _) hb _), by rw [(ls_row_other _ (by omega)).1]; exact s.cell, by rw [(ls_row_other _ (by omega)).2]; exact s.free, s.cb, fun e he => ?_, s.lim, by rw [setRow_size]; exact s.le⟩
 rcases List.mem_cons.1 he with rfl | he
 ·exact ⟨h0.1.setRow G, h0.2⟩
 ·have := s.ex e (.tail _ he)
  exact ⟨this.1.setRow_other _ (hn e he), this.2⟩
/-- The first block's cell stored. -/
theorem LsR.set {b T n : Nat} {F : Nat → Int} (s : LsR c h (⟨b, T, n, F⟩ :: E) top w wr) (hn : ∀ e, e ∈ E → e.b ≠ b) (i : Nat) (x : Int) : LsR c h (⟨b, T, n, Go.Proofs.YtgfklheepkgedaaGreat.upd F i x⟩ :: E) top w (wr.setCell ⟨b, i, none⟩ (.int .i64 x)) := by
 have h0 := s.ex _ (.head _)
 have hcb := s.cb
 have hb : w.heap.size ≤ b := h0.2.1
 have hne : (⟨b, i, none⟩ : Addr) ≠ c := fun e => by rw [← e] at hcb; simp only at hcb; omega
 refine ⟨s.upd.setCell hb _, (World.cell?_setCell_other _ _ _ _ hne).trans s.cell, (World.frozen?_setCell ..).trans s.free, s.cb, fun e he => ?_, s.lim, by rw [setCell_size]; exact s.le⟩
 rcases List.mem_cons.1 he with rfl | he
 ·exact ⟨h0.1.set i x, h0.2⟩
 ·have := s.ex e (.tail _ he)
  exact ⟨this.1.other (hn e he) _, this.2⟩
theorem LsR.congr {b T n : Nat} {F G : Nat → Int} (s : LsR c h (⟨b, T, n, F⟩ :: E) top w wr) (eh : h = h') (e : ∀ i, i < n → F i = G i) : LsR c h' (⟨b, T, n, G⟩ :: E) top w wr := by
 subst eh
 refine ⟨s.upd, s.cell, s.free, s.cb, fun x hx => ?_, s.lim, s.le⟩
 rcases List.mem_cons.1 hx with rfl | hx
 ·exact ⟨s.e0.congr e, (s.ex _ (.head _)).2⟩
 ·exact s.ex x (.tail _ hx)
/-- The blocks in another order, or some of them. -/
theorem LsR.sub {E' : List Lx} (s : LsR c h E top w wr) (hs : ∀ e, e ∈ E' → e ∈ E) : LsR c h E' top w wr := ⟨s.upd, s.cell, s.free, s.cb, fun e he => s.ex e (hs e he), s.lim, s.le⟩
/-- A block that was laid somewhere behind the others, filled. -/
theorem LsR.fill {b T n : Nat} {f : Nat → Int} (s : LsR c h E top w wr) (hb : Blk wr b T n f) (ht : top ≤ b) (F : Nat → Int) : LsR c h (⟨b, T, n, F⟩ :: E) (b + 1) w (wr.setRow b (arrv n F)) := by
 have hl := s.lim
 have k := s.low (below_row (Below.refl _ _) ht (arrv n F)) (by rw [setRow_size]; exact s.le)
 refine ⟨k.upd, k.cell, k.free, k.cb, fun e he => ?_, by omega, by rw [setRow_size]; exact hb.lt⟩
 rcases List.mem_cons.1 he with rfl | he
 ·exact ⟨hb.setRow F, by simp only; omega, by simp⟩
 ·have := k.ex e he
  exact ⟨this.1, this.2.1, by omega⟩
theorem ls_nil (hc : w.cell? c = some (.bool h)) (hf : w.frozen? c = false) : LsR c h [] w.heap.size w w := ⟨Upd.refl hc, hc, hf, World.block_lt_of_cell? w c hc, (fun e he => by cases he), Nat.le_refl _, Nat.le_refl _⟩
end
end Go.Proofs.YtgfklheepkgedaaGreat
/- A region that draws its order, where several operations may come first: the orders that have done the same set of operations are walked once from there ('share'). -/
namespace Go.Proofs.YtgfklheepkgedaaGreat
open Go
/-- What is asked at several places, shown once: T is found at the first of them. -/
inductive Shr (T : Prop) : Prop where
 | mk (out : T) : Shr T
theorem Shr.out {T : Prop} : Shr T → T := fun ⟨h⟩ => h
theorem share {T G : Prop} (h : Shr T → G) (p : T) : G := h ⟨p⟩
theorem wpAnyM_fourS {P : Program} {ops : Array Oper} {Q : Exit → Act → World → Prop} {md : Region.Mode} {L : Nat} {S : World → Prop} (i j l m : Nat) {oi oj ol om : Oper} {fuel : Nat} {listed : Array Bool} {a : Act} {w : World} (hi : ops.toList[i]? = some oi) (hj : ops.toList[j]? = some oj) (hl : ops.toList[l]? = some ol) (hm : ops.toList[m]? = some om) (hr : Region.ready md ops listed = [i, j, l, m])
  (h1 : ∀ K : Act → World → Prop, Shut (∀ a w, S w → (S w → wpAnyM P md ops Q S L fuel (listed.setIfInBounds i true) a w) → K a w) →
   if Region.wanted oi (yielded ops a.tmps) = true then Oper.wp P oi a w K Q else K (a.put oi.dst undef) w)
  (h2 : ∀ K : Act → World → Prop, Shut (∀ a w, S w → (S w → wpAnyM P md ops Q S L fuel (listed.setIfInBounds j true) a w) → K a w) →
   if Region.wanted oj (yielded ops a.tmps) = true then Oper.wp P oj a w K Q else K (a.put oj.dst undef) w)
  (h3 : ∀ K : Act → World → Prop, Shut (∀ a w, S w → (S w → wpAnyM P md ops Q S L fuel (listed.setIfInBounds l true) a w) → K a w) →
   if Region.wanted ol (yielded ops a.tmps) = true then Oper.wp P ol a w K Q else K (a.put ol.dst undef) w)
  (h4 : ∀ K : Act → World → Prop, Shut (∀ a w, S w → (S w → wpAnyM P md ops Q S L fuel (listed.setIfInBounds m true) a w) → K a w) →
   if Region.wanted om (yielded ops a.tmps) = true then Oper.wp P om a w K Q else K (a.put om.dst undef) w) :
  wpAnyM P md ops Q S L (fuel + 1) listed a w := by
 have hi' : ops[i]? = some oi := by rwa [Array.getElem?_toList] at hi
 have hj' : ops[j]? = some oj := by rwa [Array.getElem?_toList] at hj
 have hl' : ops[l]? = some ol := by rwa [Array.getElem?_toList] at hl
 have hm' : ops[m]? = some om := by rwa [Array.getElem?_toList] at hm
 refine ⟨fun h0 => (by rw [hr] at h0; cases h0), fun k hk => ?_⟩
 rw [hr] at hk
 have hk' : k = i ∨ k = j ∨ k = l ∨ k = m := by simpa using hk
 rcases hk' with rfl | rfl | rfl | rfl
 ·exact wpOp_step hi' (fun K' hK => h1 K' (fun a w hS hW => hK a w ⟨.inr hS, hW hS⟩))
 ·exact wpOp_step hj' (fun K' hK => h2 K' (fun a w hS hW => hK a w ⟨.inr hS, hW hS⟩))
 ·exact wpOp_step hl' (fun K' hK => h3 K' (fun a w hS hW => hK a w ⟨.inr hS, hW hS⟩))
 ·exact wpOp_step hm' (fun K' hK => h4 K' (fun a w hS hW => hK a w ⟨.inr hS, hW hS⟩))
end Go.Proofs.YtgfklheepkgedaaGreat
