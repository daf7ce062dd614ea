/- Contracts of the reference's block: Unit, Reset. -/
import Derived.Test.YtokcdlcmamdloaaQ11
import Derived.Test.YtokcdlcmamdloaaQ07
namespace Go.Proofs.Ytokcdlcmamdloaa
open Go.RowKit
set_option maxRecDepth 100000
/-- The reference's flags, state by state, are the program's, number by number. -/
def rkB (fr : Int) (n : Nat) (L : Nat → Int) (i : Nat) : Bool := if rtR fr n i = true then varH (L ((i : Int) - fr).toNat) else false
theorem rkB_all (fr : Int) (n : Nat) (L : Nat → Int) : orB (rkB fr n L) 24 = orB (rtB fr L) n := by
  rw [Bool.eq_iff_iff, orB_iff, orB_iff]
  constructor
  · rintro ⟨i, hi, h⟩
    unfold rkB at h
    split at h
    · rename_i hr
      unfold rtR at hr
      rw [decide_eq_true_eq] at hr
      refine ⟨((i : Int) - fr).toNat, by omega, ?_⟩
      unfold rtB
      rw [if_pos (by unfold rtI; rw [decide_eq_true_eq]; omega)]
      exact h
    · cases h
  · rintro ⟨k, hk, h⟩
    unfold rtB at h
    split at h
    · rename_i hr
      unfold rtI at hr
      rw [decide_eq_true_eq] at hr
      refine ⟨(fr + k).toNat, by omega, ?_⟩
      unfold rkB
      rw [if_pos (by unfold rtR; rw [decide_eq_true_eq]; omega), show ((((fr + k).toNat : Nat) : Int) - fr).toNat = k by omega]
      exact h
    · cases h
structure UnR (w : World) (g : Nat → Int) (wr : World) : Prop where
  below : Below w.heap.size w wr
  res : Blk wr w.heap.size 26 576 (fun _ => 0)
  blk : Blk wr (w.heap.size + 1) 26 576 g
theorem runit_any (w : World) :
    Calls Try.prog 55 #[] w fun e w' => e = .returned (.agg (arrv 576 oneF)) ∧ Below w.heap.size w w' := by
  go_enter Try.func55, Try.ntmps55
  go_wp2_with fail
  go_loopw [2] (fun i wr => ∃ k : Nat, k ≤ 24 ∧ i = .int .i64 k ∧ Hid (UnR w (oneS k) wr)) (fun i _ => 24 - (intOf i).toNat)
  case atStart =>
    refine ⟨0, by omega, rfl, ⟨by (repeat (first | with_reducible exact Below.refl _ _ | with_reducible apply Below.drew | (with_reducible refine below_drewN ?_ _) | (with_reducible refine Below.alloc ?_ (by (try simp) <;> omega) _) | (with_reducible refine Below.setCell ?_ (by (try simp) <;> omega) _))), ?_, ?_⟩⟩
    · rw [zmat2]; exact (Blk.new w _ _ _).alloc _
    · rw [zmat2]; exact (Blk.new1 w _ _ _ _).congr fun i hi => by simp [oneS]
  case round =>
    obtain ⟨k, hk, rfl, R⟩ := hrel
    by_cases hlt : k < 24
    · have b0 := R.out.blk.cell (i := k * 24 + k) (by omega)
      have b1 := R.out.blk.free (k * 24 + k)
      go_wp2_with fail
      go_roundw
      case rel =>
        refine ⟨k + 1, by omega, by go_num, ⟨R.out.below.setCell (by simp) _, R.out.res.other (by simp) _, ?_⟩⟩
        refine (R.out.blk.set _ _).congr fun i hi => ?_
        simp only [Go.Proofs.Ytokcdlcmamdloaa.upd, oneS]
        by_cases h1 : i = k * 24 + k
        · subst h1; rw [if_pos rfl, if_pos (by omega)]
        · rw [if_neg h1]; split <;> split <;> first | rfl | omega
      case measure => simp [intOf]; omega
    · have hk24 : k = 24 := by omega
      subst hk24
      have B0 := R.out.res
      have B1 := R.out.blk
      have HB := Lib.hid R.out.below
      clear R hlt hk
      rw [show ((24 : Nat) : Int) = 24 from rfl]
      go_wp2_with (first | (refine wpList_load_row rfl 26 _ rfl (w.heap.size + 1) rfl 26 _ (0, 0) _ (B1) Try.underlying26 rfl (ig24.trans (by rw [arrv_size])) ?_) | (refine wpList_store_row rfl 26 _ _ rfl (w.heap.size) _ rfl rfl 26 _ (B0) (ig24.trans (by rw [arrv_size])) (by rw [arrv_size, arrv_size]) (oneCell_arrv _ _) ?_))
      refine bodyPost_ret (results_cell_row Try.results55 _ _ w.heap.size 26 (arrv 576 (oneS 24)) (0, 0) _ rfl (setRow_heap _ _ _ _ _ _ B0) Try.underlying26 rfl (ig24.trans (by rw [arrv_size]))) rfl ⟨?_, ?_⟩
      · rw [arrv_congr (g := oneF) fun i hi => by simp only [oneS, oneF]; split <;> split <;> first | rfl | omega]
      · exact below_row HB.out (Nat.le_refl _) _
/-- The reference's blocks: the factors, the answer, the matrix, the noises. -/
structure RkR (c : Addr) (h : Bool) (bf bq : Nat) (f F Q : Nat → Int) (w wr : World) : Prop where
  upd : Upd c h w wr
  pB : Blk wr w.heap.size 25 300 f
  r0 : Blk wr (w.heap.size + 1) 25 300 (fun _ => 0)
  fB : Blk wr bf 26 576 F
  qB : Blk wr bq 23 24 Q
theorem RkR.upd' {c : Addr} {h h' : Bool} {bf bq : Nat} {f F Q : Nat → Int} {w wr w' : World} (s : RkR c h bf bq f F Q w wr) (hc : c.block < w.heap.size) (h1 : w.heap.size + 1 < bf) (h2 : bf < bq) (u : Upd c h' wr w') : RkR c h' bf bq f F Q w w' :=
  ⟨s.upd.trans u, s.pB.upd u (by omega), s.r0.upd u (by omega), s.fB.upd u (by omega), s.qB.upd u (by omega)⟩
theorem RkR.drew {c : Addr} {h : Bool} {bf bq : Nat} {f F Q : Nat → Int} {w wr : World} (s : RkR c h bf bq f F Q w wr) : RkR c h bf bq f F Q w wr.drew := ⟨s.upd.drew, s.pB, s.r0, s.fB, s.qB⟩
theorem RkR.setF {c : Addr} {h : Bool} {bf bq : Nat} {f F Q : Nat → Int} {w wr : World} (s : RkR c h bf bq f F Q w wr) (h1 : w.heap.size + 1 < bf) (h2 : bf < bq) (i : Nat) (x : Int) :
    RkR c h bf bq f (Go.Proofs.Ytokcdlcmamdloaa.upd F i x) Q w (wr.setCell ⟨bf, i, none⟩ (.int .i64 x)) :=
  ⟨s.upd.setCell (by simp; omega) _, s.pB.other (by simp; omega) _, s.r0.other (by simp; omega) _, s.fB.set _ _, s.qB.other (by simp; omega) _⟩
theorem RkR.setQ {c : Addr} {h : Bool} {bf bq : Nat} {f F Q : Nat → Int} {w wr : World} (s : RkR c h bf bq f F Q w wr) (h1 : w.heap.size + 1 < bf) (h2 : bf < bq) (j : Nat) (y : Int) :
    RkR c h bf bq f F (Go.Proofs.Ytokcdlcmamdloaa.upd Q j y) w (wr.setCell ⟨bq, j, none⟩ (.int .i64 y)) :=
  ⟨s.upd.setCell (by simp; omega) _, s.pB.other (by simp; omega) _, s.r0.other (by simp; omega) _, s.fB.other (by simp; omega) _, s.qB.set _ _⟩
theorem RkR.congr {c : Addr} {h : Bool} {bf bq : Nat} {f F Q F' Q' : Nat → Int} {w wr : World} (s : RkR c h bf bq f F Q w wr) (hF : ∀ i, i < 576 → F i = F' i) (hQ : ∀ i, i < 24 → Q i = Q' i) : RkR c h bf bq f F' Q' w wr :=
  ⟨s.upd, s.pB, s.r0, s.fB.congr hF, s.qB.congr hQ⟩
/-- Behind m states. -/
def rkF (fr : Int) (n m : Nat) : Nat → Int := rsF fun i => rtR fr n i && decide (i < m)
def rkQ (fr : Int) (n : Nat) (v : Nat → Int) (m : Nat) : Nat → Int := fun i => if rtR fr n i = true ∧ i < m then v ((i : Int) - fr).toNat else 0
theorem rkF_yes {fr : Int} {n m : Nat} (hm : m < 24) (h : rtR fr n m = true) : ∀ i, i < 576 → Go.Proofs.Ytokcdlcmamdloaa.upd (rkF fr n m) (m * 24 + m) 0 i = rkF fr n (m + 1) i := fun i hi => by
  unfold Go.Proofs.Ytokcdlcmamdloaa.upd rkF rsF
  by_cases e : i = m * 24 + m
  · subst e
    rw [if_pos rfl, show (m * 24 + m) / 24 = m by omega, if_neg (by simp [h])]
  · rw [if_neg e]
    by_cases e2 : i / 24 = i % 24
    · have : i / 24 ≠ m := by omega
      simp only [e2, true_and]
      rw [show decide (i % 24 < m + 1) = decide (i % 24 < m) from by rw [decide_eq_decide]; omega]
    · rw [if_neg (by simp [e2]), if_neg (by simp [e2])]
theorem rkF_no {fr : Int} {n m : Nat} (h : rtR fr n m = false) : rkF fr n m = rkF fr n (m + 1) := by
  unfold rkF
  congr 1
  funext i
  by_cases e : i = m
  · subst e; rw [h]; simp
  · rw [show decide (i < m + 1) = decide (i < m) from by rw [decide_eq_decide]; omega]
theorem rkF_0 (fr : Int) (n : Nat) : rkF fr n 0 = oneF := by
  funext x
  unfold rkF rsF oneF
  simp
theorem rkF_24 (fr : Int) (n : Nat) : rkF fr n 24 = rtF fr n := by
  rw [rtF_eq]
  unfold rkF
  congr 1
  funext i
  by_cases h : i < 24
  · simp [h]
  · have : rtR fr n i = false := by unfold rtR; simp; omega
    rw [this]; simp
theorem rkQ_yes {fr : Int} {n m : Nat} {v : Nat → Int} {x : Int} (h : rtR fr n m = true) (hx : v ((m : Int) - fr).toNat = x) : ∀ i, i < 24 → Go.Proofs.Ytokcdlcmamdloaa.upd (rkQ fr n v m) m x i = rkQ fr n v (m + 1) i := fun i hi => by
  unfold Go.Proofs.Ytokcdlcmamdloaa.upd rkQ
  by_cases e : i = m
  · subst e; rw [if_pos rfl, if_pos ⟨h, by omega⟩, hx]
  · rw [if_neg e]
    by_cases e2 : rtR fr n i = true ∧ i < m
    · rw [if_pos e2, if_pos ⟨e2.1, by omega⟩]
    · rw [if_neg e2, if_neg (fun k => e2 ⟨k.1, by omega⟩)]
theorem rkQ_no {fr : Int} {n m : Nat} {v : Nat → Int} (h : rtR fr n m = false) : rkQ fr n v m = rkQ fr n v (m + 1) := by
  funext i
  unfold rkQ
  by_cases e : i = m
  · subst e; rw [if_neg (by simp [h]), if_neg (by simp [h])]
  · by_cases e2 : rtR fr n i = true ∧ i < m
    · rw [if_pos e2, if_pos ⟨e2.1, by omega⟩]
    · rw [if_neg e2, if_neg (fun k => e2 ⟨k.1, by omega⟩)]
theorem rkQ_24 (fr : Int) (n : Nat) (L : Nat → Int) : ∀ i, i < 24 → rkQ fr n (fun k => varV (L k)) 24 i = rtQ fr L n i := fun i hi => by
  rw [rtQ_at fr L n i hi]
  unfold rkQ
  by_cases h : rtR fr n i = true
  · rw [if_pos ⟨h, hi⟩, if_pos h]
  · rw [if_neg (fun k => h k.1), if_neg h]
set_option maxHeartbeats 8000000 in
theorem rreset_any (c : Addr) (h : Bool) (f : Nat → Int) (fr : Int) (p : Option Addr) (n cp : Nat) (L : Nat → Int) (w : World) (hc : w.cell? c = some (.bool h)) (hf : w.frozen? c = false) (hL : Slc w p n L) (hfr : -900 ≤ fr ∧ fr ≤ 900) (hn : n ≤ 1000) :
    Calls Try.prog 19 #[.pointer (some c), .agg (arrv 300 f), .int .i64 fr, .slice p n cp] w fun e w' =>
      e = .returned (.agg (arrv 300 (stepF f (rtF fr n) (rtQ fr L n)))) ∧ Upd c (h || orB (rtB fr L) n || stepH f (rtF fr n) (rtQ fr L n)) w w' := by
  have hcb := World.block_lt_of_cell? w c hc
  have HC := Lib.hid hc
  have HF := Lib.hid hf
  have HL := Lib.hid hL
  clear hc hf hL
  go_enter Try.func19, Try.ntmps19
  obtain ⟨W0, hW0⟩ : ∃ x, (w.alloc (.cells (arrv 300 f) 25)).alloc (.cells Try.zeroCells25 25) = x := ⟨_, rfl⟩
  have P0 : Blk W0 w.heap.size 25 300 f := by rw [← hW0]; exact (Blk.new w _ _ _).alloc _
  have Z0 : Blk W0 (w.heap.size + 1) 25 300 (fun _ => 0) := by rw [← hW0, zcov]; exact Blk.new1 w _ _ _ _
  have U0 : Upd c h w W0 := by rw [← hW0]; exact Upd.then (Upd.refl HC.out) (by (repeat (first | with_reducible exact Below.refl _ _ | with_reducible apply Below.drew | (with_reducible refine below_drewN ?_ _) | (with_reducible refine Below.alloc ?_ (by (try simp) <;> omega) _) | (with_reducible refine Below.setCell ?_ (by (try simp) <;> omega) _))))
  have hz0 := Z0.lt
  go_upto_region 1 with fail
  (try rw [hW0])
  go_upto_region 2 with (first | (go_at_call 55; (refine (runit_any _).mono ?_); rintro e w1 ⟨rfl, hb1⟩; have P1 := Lib.hid (P0.below hb1); have Z1 := Lib.hid (Z0.below hb1); have U1 := Lib.hid (U0.then hb1); have R1 : Blk (w1.alloc (.cells Try.zeroCells26 26)) w1.heap.size 26 576 (fun _ => 0) := (by rw [zmat2]; exact Blk.new _ _ _ _); clear hb1) | (refine wpList_store_row rfl 26 _ _ rfl (w1.heap.size) _ rfl rfl 26 _ (R1) (ig24.trans (by rw [arrv_size])) (by rw [arrv_size, arrv_size]) (oneCell_arrv _ _) ?_))
  obtain ⟨w2, hw2⟩ : ∃ x, x = ((w1.alloc (.cells Try.zeroCells26 26)).setRow w1.heap.size (arrv 576 oneF)) := ⟨_, rfl⟩
  rw [← hw2]
  obtain ⟨M2, MB⟩ := Blk.made zmat2 oneF hw2
  obtain ⟨bf, hbf⟩ : ∃ x, w1.heap.size = x := ⟨_, rfl⟩
  have h1 : w.heap.size + 1 < bf := by rw [← hbf]; exact Z1.out.lt
  rw [hbf] at M2 ⊢
  have A2 := Lib.hid (And.intro (U1.out.then MB) (And.intro (P1.out.below MB) (And.intro (Z1.out.below MB) M2)))
  clear P0 Z0 U0 hz0 R1 hw2 M2 MB P1 Z1 U1 hW0 hbf
  have RE : Blk (w2.alloc (.cells #[.int .i64 0, .int .i64 0, .int .i64 0, .int .i64 0, .int .i64 0, .int .i64 0, .int .i64 0, .int .i64 0, .int .i64 0, .int .i64 0, .int .i64 0, .int .i64 0, .int .i64 0, .int .i64 0, .int .i64 0, .int .i64 0, .int .i64 0, .int .i64 0, .int .i64 0, .int .i64 0, .int .i64 0, .int .i64 0, .int .i64 0, .int .i64 0] 23)) w2.heap.size 23 24 (fun _ => 0) := by rw [zcol]; exact Blk.new _ _ _ _
  refine wp_region_lit ?_
  refine wpList_val (v := ?_) rfl ?_ ?_
  rotate_left
  · (go_simp; rw [zcol])
  (try simp only [Act.put, List.setIfInBounds_toArray, List.set_cons_zero, List.set_cons_succ])
  refine wpList_act (v := ?_) (w' := ?_) rfl ?_ ?_
  rotate_left 2
  · (go_simp; (try (first | with_reducible rfl | (constructor <;> with_reducible rfl))))
  (try simp only [Act.put, List.setIfInBounds_toArray, List.set_cons_zero, List.set_cons_succ])
  refine wpList_done (w' := ?_) rfl ?_ ?_
  rotate_left
  · refine Eq.trans (run_store_row 23 (.tmp 10) (.tmp 14) (by rfl) (w2.heap.size) (by rfl) (by rfl) (RE) (icol.trans rfl)) ?_; with_reducible rfl
  (try simp only [Act.put, List.setIfInBounds_toArray, List.set_cons_zero, List.set_cons_succ])
  refine wpList_nil ?_
  obtain ⟨bq, hbq⟩ : ∃ x, w2.heap.size = x := ⟨_, rfl⟩
  have h2 : bf < bq := by rw [← hbq]; exact A2.out.2.2.2.lt
  rw [hbq] at RE ⊢
  obtain ⟨vf, hvf⟩ : ∃ x, (fun k => varV (L k)) = x := ⟨_, rfl⟩
  have S3 : Hid (RkR c (h || orB (rkB fr n L) 0) bf bq f (rkF fr n 0) (rkQ fr n vf 0) w ((w2.alloc (.cells #[.int .i64 0, .int .i64 0, .int .i64 0, .int .i64 0, .int .i64 0, .int .i64 0, .int .i64 0, .int .i64 0, .int .i64 0, .int .i64 0, .int .i64 0, .int .i64 0, .int .i64 0, .int .i64 0, .int .i64 0, .int .i64 0, .int .i64 0, .int .i64 0, .int .i64 0, .int .i64 0, .int .i64 0, .int .i64 0, .int .i64 0, .int .i64 0] 23)).setRow bq (arrv 24 (fun _ => 0)))) := by
    obtain ⟨a1, a2, a3, a4⟩ := A2.out
    rw [rkF_0, show (h || orB (rkB fr n L) 0) = h from by simp [orB]]
    refine Lib.hid ⟨(a1.alloc _).then' (below_row (Below.refl _ _) (by omega) _), (a2.alloc _).setRow_other _ (by omega), (a3.alloc _).setRow_other _ (by omega), (a4.alloc _).setRow_other _ (by omega), (RE.setRow _).congr fun i hi => ?_⟩
    unfold rkQ; rw [if_neg (by omega)]
  generalize (w2.alloc (.cells #[.int .i64 0, .int .i64 0, .int .i64 0, .int .i64 0, .int .i64 0, .int .i64 0, .int .i64 0, .int .i64 0, .int .i64 0, .int .i64 0, .int .i64 0, .int .i64 0, .int .i64 0, .int .i64 0, .int .i64 0, .int .i64 0, .int .i64 0, .int .i64 0, .int .i64 0, .int .i64 0, .int .i64 0, .int .i64 0, .int .i64 0, .int .i64 0] 23)).setRow bq (arrv 24 (fun _ => 0)) = W3 at *
  have HV := Lib.hid hvf
  clear RE hbq A2 hvf
  go_wp2_with fail
  go_loopw [11] (fun i wr => ∃ k : Nat, k ≤ 24 ∧ i = .int .i64 k ∧ Hid (RkR c (h || orB (rkB fr n L) k) bf bq f (rkF fr n k) (rkQ fr n vf k) w wr)) (fun i _ => 24 - (intOf i).toNat)
  case atStart => exact ⟨0, by omega, rfl, S3⟩
  case round =>
    obtain ⟨i, hi24, rfl, R⟩ := hrel
    clear S3
    by_cases hi : i < 24
    · have d0 : decide ((i : Int) < 24) = true := by simp; omega
      have kw : IntKind.i64.wrap ((i : Int) - fr) = (i : Int) - fr := IntWalk.i64_in _ (by omega)
      have g0 : decide (-1000 ≤ fr) = true := by simp; omega
      by_cases hr : rtR fr n i = true
      · have hr2 : fr ≤ i ∧ (i : Int) < fr + n ∧ i < 24 := by unfold rtR at hr; rwa [decide_eq_true_eq] at hr
        obtain ⟨k, hk⟩ : ∃ k : Nat, (i : Int) - fr = k := ⟨((i : Int) - fr).toNat, by omega⟩
        have hkn : k < n := by omega
        have hkt : ((i : Int) - fr).toNat = k := by omega
        rw [hk] at kw
        obtain ⟨pb, po, rfl, hcell⟩ := HL.out k hkn
        have hne : (⟨pb, po + k, none⟩ : Addr) ≠ c := fun e => by rw [e, HC.out] at hcell; cases hcell
        have hpl := World.block_lt_of_cell? _ _ hcell
        have hcell' : wr.cell? ⟨pb, po + k, none⟩ = some (.int .i64 (L k)) := (R.out.upd.cell hpl (Ne.symm hne)).trans hcell
        go_upto_region 7 with fail
        (try rw [hk]); (try rw [kw])
        have g1 : decide (fr ≤ 24) = true := by simp; omega
        have g2 : decide ((0 : Int) ≤ (k : Int)) = true := by simp
        have g3 : decide ((k : Int) < (n : Int)) = true := by simp; omega
        have g4 : decide (k < n) = true := by simpa using hkn
        have k0 : (0 : Int) ≤ (i : Int) := Int.natCast_nonneg _
        have k1 : (i : Int) < 24 := by omega
        have n0 := R.out.fB.cell (i := i * 24 + i) (by omega)
        have n1 := R.out.fB.free (i * 24 + i)
        obtain ⟨HK, hHK⟩ : ∃ y, (h || orB (rkB fr n L) i) = y := ⟨_, rfl⟩
        rw [hHK] at R
        have R8 := Lib.hid ((R.out.setF h1 h2 (i * 24 + i) 0).congr (rkF_yes hi hr) (fun _ _ => rfl))
        have EK := Lib.hid (And.intro hHK (And.intro hr hkt))
        have HCL := Lib.hid hcell
        clear hHK hr hkt hr2 hcell R kw
        go_upto_region 9 with fail
        generalize wr.setCell ⟨bf, i * 24 + i, none⟩ (.int .i64 0) = W8 at *
        clear n0 n1 hcell'
        have hc8 : W8.cell? ⟨pb, po + k, none⟩ = some (.int .i64 (L k)) := (R8.out.upd.cell hpl (Ne.symm hne)).trans HCL.out
        have vc := rclamp_any c HK (L k) 1 72057594037927936 W8.drew (by exact R8.out.upd.cellc HC.out) (by exact (R8.out.upd.frozen hcb).trans HF.out)
        rw [show clampV (L k) 1 72057594037927936 = varV (L k) from rfl, show clampH (L k) 1 72057594037927936 = varH (L k) from rfl] at vc
        obtain ⟨VV, hVV⟩ : ∃ y, varV (L k) = y := ⟨_, rfl⟩
        obtain ⟨VH, hVH⟩ : ∃ y, varH (L k) = y := ⟨_, rfl⟩
        rw [hVV, hVH] at vc
        have VC := Lib.hid vc
        have EV := Lib.hid (And.intro hVV hVH)
        clear vc hVV hVH g0 g1 g2 g3
        refine wp_region_M (fun w' => w'.cell? ⟨pb, po + k, none⟩ = some (.int .i64 (L k))) 10 (by kernel_rfl) ?_ (fun hHeld => ?_)
        · exact hc8
        refine wpAnyM_take 0 (v := ?_) rfl (by kernel_rfl) (fun _ _ _ h => h) (Or.inl ⟨by rfl, ?_⟩) (by assumption) ?_
        rotate_left
        · (intro wx hSw; (try dsimp only at hSw); go_simp; (try with_reducible rfl))
        (try simp only [Act.put, List.setIfInBounds_toArray, List.set_cons_zero, List.set_cons_succ])
        refine wpAnyM_take 1 (v := ?_) rfl (by kernel_rfl) (fun _ _ _ h => h) (Or.inl ⟨by rfl, ?_⟩) (by assumption) ?_
        rotate_left
        · (intro wx hSw; (try dsimp only at hSw); go_simp; (try with_reducible rfl))
        (try simp only [Act.put, List.setIfInBounds_toArray, List.set_cons_zero, List.set_cons_succ])
        refine wpAnyM_take 2 (v := ?_) rfl (by kernel_rfl) (fun _ _ _ h => h) (Or.inl ⟨by rfl, ?_⟩) (by assumption) ?_
        rotate_left
        · (intro wx hSw; (try dsimp only at hSw); go_simp; (try with_reducible rfl))
        (try simp only [Act.put, List.setIfInBounds_toArray, List.set_cons_zero, List.set_cons_succ])
        refine wpAnyM_take 3 (v := ?_) rfl (by kernel_rfl) (fun _ _ _ h => h) (Or.inl ⟨by rfl, ?_⟩) (by assumption) ?_
        rotate_left
        · (intro wx hSw; (try dsimp only at hSw); go_simp; (try with_reducible rfl))
        (try simp only [Act.put, List.setIfInBounds_toArray, List.set_cons_zero, List.set_cons_succ])
        refine wpAnyM_take 4 (v := ?_) rfl (by kernel_rfl) (fun _ _ _ h => h) (Or.inl ⟨by rfl, ?_⟩) (by assumption) ?_
        rotate_left
        · (intro wx hSw; (try dsimp only at hSw); go_simp; (try with_reducible rfl))
        (try simp only [Act.put, List.setIfInBounds_toArray, List.set_cons_zero, List.set_cons_succ])
        refine wpAnyM_take 5 (v := ?_) rfl (by kernel_rfl) (fun _ _ _ h => h) (Or.inl ⟨by rfl, ?_⟩) (by assumption) ?_
        rotate_left
        · (intro wx hSw; (try dsimp only at hSw); go_simp; (try with_reducible rfl))
        (try simp only [Act.put, List.setIfInBounds_toArray, List.set_cons_zero, List.set_cons_succ])
        refine wpAnyM_take 6 (v := ?_) rfl (by kernel_rfl) (fun _ _ _ h => h) (Or.inl ⟨by rfl, ?_⟩) (by assumption) ?_
        rotate_left
        · (intro wx hSw; (try dsimp only at hSw); go_simp; (first | rw [if_pos (by omega)] | rw [if_pos ⟨by omega, by omega⟩] | skip); (try with_reducible rfl))
        (try simp only [Act.put, List.setIfInBounds_toArray, List.set_cons_zero, List.set_cons_succ])
        refine wpAnyM_take 7 (v := ?_) rfl (by kernel_rfl) (fun _ _ _ h => h) (Or.inl ⟨by rfl, ?_⟩) (by assumption) ?_
        rotate_left
        · (intro wx hSw; (try dsimp only at hSw); go_simp; (try with_reducible rfl))
        (try simp only [Act.put, List.setIfInBounds_toArray, List.set_cons_zero, List.set_cons_succ])
        refine wpAnyM_oneS 8 rfl (by kernel_rfl) (fun K hK => ?_)
        go_simp
        (refine VC.out.mono ?_); rintro e w6 ⟨rfl, hw6⟩; have R9 := Lib.hid (R8.out.upd' hcb h1 h2 (Upd.after (Below.drew (Below.refl _ _)) ((Upd.set c (HK || VH) W8.drew).then (by rw [hw6]; exact Below.refl _ _)))); have n2 := R9.out.qB.cell (i := i) hi; have n3 := R9.out.qB.free i; have hc9 : w6.cell? ⟨pb, po + k, none⟩ = some (.int .i64 (L k)) := (R9.out.upd.cell hpl (Ne.symm hne)).trans HCL.out; clear hw6
        (try dsimp only)
        (try simp only [Act.put, List.setIfInBounds_toArray, List.set_cons_zero, List.set_cons_succ])
        clear hHeld
        refine hK.out _ _ ?_ (fun hHeld => ?_)
        · exact hc9
        clear hK K
        (try simp only [Act.put, List.setIfInBounds_toArray, List.set_cons_zero, List.set_cons_succ])
        refine wpAnyM_take 9 (v := ?_) rfl (by kernel_rfl) (fun _ _ _ h => h) (Or.inl ⟨by rfl, ?_⟩) (by assumption) ?_
        rotate_left
        · (intro wx hSw; (try dsimp only at hSw); go_simp; (first | rw [if_pos (by omega)] | rw [if_pos ⟨by omega, by omega⟩] | skip); (try with_reducible rfl))
        (try simp only [Act.put, List.setIfInBounds_toArray, List.set_cons_zero, List.set_cons_succ])
        refine wpAnyM_one 10 rfl (by kernel_rfl) (fun K hK => ?_)
        go_simp
        refine hK.out _ _ (.inl (by kernel_rfl)) (fun _ => ?_)
        clear hK K
        (try simp only [Act.put, List.setIfInBounds_toArray, List.set_cons_zero, List.set_cons_succ])
        refine wpAnyM_done (by kernel_rfl) ?_ _
        obtain ⟨e1, e2, e3⟩ := EK.out
        have RA := Lib.hid ((R9.out.setQ h1 h2 i VV).congr (fun _ _ => rfl) (rkQ_yes e2 (by rw [e3, ← HV.out]; exact EV.out.1)))
        generalize w6.setCell ⟨bq, i, none⟩ (.int .i64 VV) = WA at *
        clear n2 n3 R9 R8 VC hc8 hc9
        (try clear hHeld)
        go_wp2_with fail
        go_roundw
        case rel =>
          refine ⟨i + 1, by omega, by go_num, ?_⟩
          rw [show (h || orB (rkB fr n L) (i + 1)) = (HK || VH) from by rw [← e1, ← EV.out.2]; simp [orB, rkB, e2, e3, Bool.or_assoc]]
          exact RA
        case measure => simp [intOf]; omega
      · have hr2 : rtR fr n i = false := by simpa using hr
        have hr3 : ¬ (fr ≤ i ∧ (i : Int) < fr + n ∧ i < 24) := by unfold rtR at hr; simpa using hr
        have RN : Hid (RkR c (h || orB (rkB fr n L) (i + 1)) bf bq f (rkF fr n (i + 1)) (rkQ fr n vf (i + 1)) w wr) := Lib.hid (by
          rw [← rkF_no hr2, ← rkQ_no hr2, show (h || orB (rkB fr n L) (i + 1)) = (h || orB (rkB fr n L) i) from by simp [orB, rkB, hr2]]
          exact R.out)
        clear R hr hr2
        obtain ⟨x, hx⟩ : ∃ x, (i : Int) - fr = x := ⟨_, rfl⟩
        rw [hx] at kw
        go_upto_region 7 with fail
        (try rw [hx]); (try rw [kw])
        by_cases q1 : fr ≤ 24
        · have g1 : decide (fr ≤ 24) = true := by simpa using q1
          by_cases q2 : 0 ≤ x
          · have g2 : decide (0 ≤ x) = true := by simpa using q2
            have g3 : decide (x < (n : Int)) = false := by simp; omega
            clear hx kw hr3
            go_wp2_with fail
            go_roundw
            case rel => exact ⟨i + 1, by omega, by go_num, RN⟩
            case measure => simp [intOf]; omega
          · have g2 : decide (0 ≤ x) = false := by simpa using q2
            clear hx kw hr3
            go_wp2_with fail
            go_roundw
            case rel => exact ⟨i + 1, by omega, by go_num, RN⟩
            case measure => simp [intOf]; omega
        · have g1 : decide (fr ≤ 24) = false := by simpa using q1
          clear hx kw hr3
          go_wp2_with fail
          go_roundw
          case rel => exact ⟨i + 1, by omega, by go_num, RN⟩
          case measure => simp [intOf]; omega
    · have hi24 : i = 24 := by omega
      subst hi24
      rw [show ((24 : Nat) : Int) = 24 from rfl]
      rw [rkB_all] at R
      have RF := Lib.hid (R.out.congr (F' := rtF fr n) (Q' := rtQ fr L n) (fun x _ => by rw [rkF_24]) (fun x hx => by rw [← HV.out]; exact rkQ_24 fr n L x hx))
      have P1 := RF.out.pB
      have P2 := RF.out.fB
      have P3 := RF.out.qB
      obtain ⟨HK, hHK⟩ : ∃ y, (h || orB (rtB fr L) n) = y := ⟨_, rfl⟩
      rw [hHK] at RF
      have EH := Lib.hid hHK
      clear R hHK
      have SC := Lib.hid (rstep_all c HK f (rtF fr n) (rtQ fr L n) bf _ wr (RF.out.upd.cellc HC.out) ((RF.out.upd.frozen hcb).trans HF.out) P2)
      go_wp2_with (first | (refine wpList_load_row rfl 25 _ rfl (w.heap.size) rfl 25 _ (0, 0) _ (P1) Try.underlying25 rfl (icov.trans (by rw [arrv_size])) ?_) | (refine wpList_load_row rfl 23 _ rfl (bq) rfl 23 _ (0, 0) _ (P3) Try.underlying23 rfl (icol.trans (by rw [arrv_size])) ?_) | (go_at_call 8; (refine SC.out.mono ?_); rintro e w8 ⟨rfl, hu8⟩; have Z8 := RF.out.r0.upd hu8 (by omega); have U8 := Lib.hid (RF.out.upd.trans hu8); clear hu8) | (refine wpList_store_row rfl 25 _ _ rfl (w.heap.size + 1) _ rfl rfl 25 _ (Z8) (icov.trans (by rw [arrv_size])) (by rw [arrv_size, arrv_size]) (oneCell_arrv _ _) ?_))
      refine bodyPost_ret (results_cell_row Try.results19 _ _ (w.heap.size + 1) 25 (arrv 300 (stepF f (rtF fr n) (rtQ fr L n))) (0, 0) _ rfl (setRow_heap _ _ _ _ _ _ Z8) Try.underlying25 rfl (icov.trans (by rw [arrv_size]))) rfl ⟨rfl, ?_⟩
      rw [EH.out]
      exact U8.out.then' (below_row (Below.refl _ _) (by omega) _)
end Go.Proofs.Ytokcdlcmamdloaa
