/- Contract of the reference's Grow. -/
import Derived.Test.YtokcdlcmamdloaaRk1
namespace Go.Proofs.Ytokcdlcmamdloaa
open Go.RowKit
set_option maxRecDepth 100000
theorem gwQ_at (fr : Int) (L : Nat → Int) : ∀ n i, i < 24 → gwQ fr L n i = if rtR fr n i = true then L ((i : Int) - fr).toNat else 0
  | 0, i, hi => by
    have : rtR fr 0 i = false := by unfold rtR; simp; omega
    rw [this]; rfl
  | n + 1, i, hi => by
    simp only [gwQ]
    by_cases hI : rtI fr n = true
    · have hb : 0 ≤ fr + n ∧ fr + n < 24 := by unfold rtI at hI; simpa using hI
      rw [if_pos hI]
      unfold Go.Proofs.Ytokcdlcmamdloaa.upd
      by_cases hx : i = (fr + (n : Int)).toNat
      · rw [if_pos hx, if_pos (by unfold rtR; simp; omega), show ((i : Int) - fr).toNat = n by omega]
      · rw [if_neg hx, gwQ_at fr L n i hi]
        have : rtR fr (n + 1) i = rtR fr n i := by unfold rtR; rw [Bool.eq_iff_iff]; simp; omega
        rw [this]
    · have hb : ¬ (0 ≤ fr + n ∧ fr + n < 24) := by unfold rtI at hI; simpa using hI
      rw [if_neg hI, gwQ_at fr L n i hi]
      have : rtR fr (n + 1) i = rtR fr n i := by unfold rtR; rw [Bool.eq_iff_iff]; simp; omega
      rw [this]
theorem rgQ_24 (fr : Int) (n : Nat) (L : Nat → Int) : ∀ i, i < 24 → rkQ fr n L 24 i = gwQ fr L n i := fun i hi => by
  rw [gwQ_at fr L n i hi]
  unfold rkQ
  by_cases h : rtR fr n i = true
  · rw [if_pos ⟨h, hi⟩, if_pos h]
  · rw [if_neg (fun k => h k.1), if_neg h]
set_option maxHeartbeats 8000000 in
theorem rgrow_any (c : Addr) (h : Bool) (f : Nat → Int) (fr : Int) (p : Option Addr) (n cp : Nat) (L : Nat → Int) (w : World) (hc : w.cell? c = some (.bool h)) (hf : w.frozen? c = false) (hL : Slc w p n L) (hfr : -900 ≤ fr ∧ fr ≤ 900) (hn : n ≤ 1000) :
    Calls Try.prog 21 #[.pointer (some c), .agg (arrv 300 f), .int .i64 fr, .slice p n cp] w fun e w' =>
      e = .returned (.agg (arrv 300 (stepF f oneF (gwQ fr L n)))) ∧ Upd c (h || stepH f oneF (gwQ fr L n)) w w' := by
  have hcb := World.block_lt_of_cell? w c hc
  have HC := Lib.hid hc
  have HF := Lib.hid hf
  have HL := Lib.hid hL
  clear hc hf hL
  go_enter Try.func21, Try.ntmps21
  obtain ⟨W0, hW0⟩ : ∃ x, (w.alloc (.cells (arrv 300 f) 25)).alloc (.cells Try.zeroCells25 25) = x := ⟨_, rfl⟩
  have P0 : Blk W0 w.heap.size 25 300 f := by rw [← hW0]; exact (Blk.new w _ _ _).alloc _
  have Z0 : Blk W0 (w.heap.size + 1) 25 300 (fun _ => 0) := by rw [← hW0, zcov]; exact Blk.new1 w _ _ _ _
  have U0 : Upd c h w W0 := by rw [← hW0]; exact Upd.then (Upd.refl HC.out) (by (repeat (first | with_reducible exact Below.refl _ _ | with_reducible apply Below.drew | (with_reducible refine below_drewN ?_ _) | (with_reducible refine Below.alloc ?_ (by (try simp) <;> omega) _) | (with_reducible refine Below.setCell ?_ (by (try simp) <;> omega) _))))
  have hz0 := Z0.lt
  go_upto_region 1 with fail
  (try rw [hW0])
  go_upto_region 2 with (first | (go_at_call 55; (refine (runit_any _).mono ?_); rintro e w1 ⟨rfl, hb1⟩; have P1 := Lib.hid (P0.below hb1); have Z1 := Lib.hid (Z0.below hb1); have U1 := Lib.hid (U0.then hb1); have R1 : Blk (w1.alloc (.cells Try.zeroCells26 26)) w1.heap.size 26 576 (fun _ => 0) := (by rw [zmat2]; exact Blk.new _ _ _ _); clear hb1) | (refine wpList_store_row rfl 26 _ _ rfl (w1.heap.size) _ rfl rfl 26 _ (R1) (ig24.trans (by rw [arrv_size])) (by rw [arrv_size, arrv_size]) (oneCell_arrv _ _) ?_))
  obtain ⟨w2, hw2⟩ : ∃ x, x = ((w1.alloc (.cells Try.zeroCells26 26)).setRow w1.heap.size (arrv 576 oneF)) := ⟨_, rfl⟩
  rw [← hw2]
  obtain ⟨M2, MB⟩ := Blk.made zmat2 oneF hw2
  obtain ⟨bf, hbf⟩ : ∃ x, w1.heap.size = x := ⟨_, rfl⟩
  have h1 : w.heap.size + 1 < bf := by rw [← hbf]; exact Z1.out.lt
  rw [hbf] at M2 ⊢
  have A2 := Lib.hid (And.intro (U1.out.then MB) (And.intro (P1.out.below MB) (And.intro (Z1.out.below MB) M2)))
  clear P0 Z0 U0 hz0 R1 hw2 M2 MB P1 Z1 U1 hW0 hbf
  have RE : Blk (w2.alloc (.cells #[.int .i64 0, .int .i64 0, .int .i64 0, .int .i64 0, .int .i64 0, .int .i64 0, .int .i64 0, .int .i64 0, .int .i64 0, .int .i64 0, .int .i64 0, .int .i64 0, .int .i64 0, .int .i64 0, .int .i64 0, .int .i64 0, .int .i64 0, .int .i64 0, .int .i64 0, .int .i64 0, .int .i64 0, .int .i64 0, .int .i64 0, .int .i64 0] 23)) w2.heap.size 23 24 (fun _ => 0) := by rw [zcol]; exact Blk.new _ _ _ _
  refine wp_region_lit ?_
  refine wpList_val (v := ?_) rfl ?_ ?_
  rotate_left
  · (go_simp; rw [zcol])
  (try simp only [Act.put, List.setIfInBounds_toArray, List.set_cons_zero, List.set_cons_succ])
  refine wpList_act (v := ?_) (w' := ?_) rfl ?_ ?_
  rotate_left 2
  · (go_simp; (try (first | with_reducible rfl | (constructor <;> with_reducible rfl))))
  (try simp only [Act.put, List.setIfInBounds_toArray, List.set_cons_zero, List.set_cons_succ])
  refine wpList_done (w' := ?_) rfl ?_ ?_
  rotate_left
  · refine Eq.trans (run_store_row 23 (.tmp 10) (.tmp 14) (by rfl) (w2.heap.size) (by rfl) (by rfl) (RE) (icol.trans rfl)) ?_; with_reducible rfl
  (try simp only [Act.put, List.setIfInBounds_toArray, List.set_cons_zero, List.set_cons_succ])
  refine wpList_nil ?_
  obtain ⟨bq, hbq⟩ : ∃ x, w2.heap.size = x := ⟨_, rfl⟩
  have h2 : bf < bq := by rw [← hbq]; exact A2.out.2.2.2.lt
  rw [hbq] at RE ⊢
  have S3 : Hid (RkR c h bf bq f oneF (rkQ fr n L 0) w ((w2.alloc (.cells #[.int .i64 0, .int .i64 0, .int .i64 0, .int .i64 0, .int .i64 0, .int .i64 0, .int .i64 0, .int .i64 0, .int .i64 0, .int .i64 0, .int .i64 0, .int .i64 0, .int .i64 0, .int .i64 0, .int .i64 0, .int .i64 0, .int .i64 0, .int .i64 0, .int .i64 0, .int .i64 0, .int .i64 0, .int .i64 0, .int .i64 0, .int .i64 0] 23)).setRow bq (arrv 24 (fun _ => 0)))) := by
    obtain ⟨a1, a2, a3, a4⟩ := A2.out
    refine Lib.hid ⟨(a1.alloc _).then' (below_row (Below.refl _ _) (by omega) _), (a2.alloc _).setRow_other _ (by omega), (a3.alloc _).setRow_other _ (by omega), (a4.alloc _).setRow_other _ (by omega), (RE.setRow _).congr fun i hi => ?_⟩
    unfold rkQ; rw [if_neg (by omega)]
  generalize (w2.alloc (.cells #[.int .i64 0, .int .i64 0, .int .i64 0, .int .i64 0, .int .i64 0, .int .i64 0, .int .i64 0, .int .i64 0, .int .i64 0, .int .i64 0, .int .i64 0, .int .i64 0, .int .i64 0, .int .i64 0, .int .i64 0, .int .i64 0, .int .i64 0, .int .i64 0, .int .i64 0, .int .i64 0, .int .i64 0, .int .i64 0, .int .i64 0, .int .i64 0] 23)).setRow bq (arrv 24 (fun _ => 0)) = W3 at *
  clear RE hbq A2
  go_wp2_with fail
  go_loopw [11] (fun i wr => ∃ k : Nat, k ≤ 24 ∧ i = .int .i64 k ∧ Hid (RkR c h bf bq f oneF (rkQ fr n L k) w wr)) (fun i _ => 24 - (intOf i).toNat)
  case atStart => exact ⟨0, by omega, rfl, S3⟩
  case round =>
    obtain ⟨i, hi24, rfl, R⟩ := hrel
    clear S3
    by_cases hi : i < 24
    · have d0 : decide ((i : Int) < 24) = true := by simp; omega
      have kw : IntKind.i64.wrap ((i : Int) - fr) = (i : Int) - fr := IntWalk.i64_in _ (by omega)
      have g0 : decide (-1000 ≤ fr) = true := by simp; omega
      by_cases hr : rtR fr n i = true
      · have hr2 : fr ≤ i ∧ (i : Int) < fr + n ∧ i < 24 := by unfold rtR at hr; rwa [decide_eq_true_eq] at hr
        obtain ⟨k, hk⟩ : ∃ k : Nat, (i : Int) - fr = k := ⟨((i : Int) - fr).toNat, by omega⟩
        have hkn : k < n := by omega
        have hkt : ((i : Int) - fr).toNat = k := by omega
        rw [hk] at kw
        obtain ⟨pb, po, rfl, hcell⟩ := HL.out k hkn
        have hne : (⟨pb, po + k, none⟩ : Addr) ≠ c := fun e => by rw [e, HC.out] at hcell; cases hcell
        have hpl := World.block_lt_of_cell? _ _ hcell
        have hcell' : wr.cell? ⟨pb, po + k, none⟩ = some (.int .i64 (L k)) := (R.out.upd.cell hpl (Ne.symm hne)).trans hcell
        go_upto_region 7 with fail
        (try rw [hk]); (try rw [kw])
        have g1 : decide (fr ≤ 24) = true := by simp; omega
        have g2 : decide ((0 : Int) ≤ (k : Int)) = true := by simp
        have g3 : decide ((k : Int) < (n : Int)) = true := by simp; omega
        have g4 : decide (k < n) = true := by simpa using hkn
        have k0 : (0 : Int) ≤ (i : Int) := Int.natCast_nonneg _
        have k1 : (i : Int) < 24 := by omega
        have n2 := R.out.qB.cell (i := i) hi
        have n3 := R.out.qB.free i
        have RA := Lib.hid ((R.out.setQ h1 h2 i (L k)).congr (fun _ _ => rfl) (rkQ_yes hr (by rw [hkt])))
        clear hr hkt hr2 hcell R kw
        go_wp2_with fail
        go_roundw
        case rel => exact ⟨i + 1, by omega, by go_num, RA⟩
        case measure => simp [intOf]; omega
      · have hr2 : rtR fr n i = false := by simpa using hr
        have hr3 : ¬ (fr ≤ i ∧ (i : Int) < fr + n ∧ i < 24) := by unfold rtR at hr; simpa using hr
        have RN : Hid (RkR c h bf bq f oneF (rkQ fr n L (i + 1)) w wr) := Lib.hid (by
          rw [← rkQ_no hr2]
          exact R.out)
        clear R hr hr2
        obtain ⟨x, hx⟩ : ∃ x, (i : Int) - fr = x := ⟨_, rfl⟩
        rw [hx] at kw
        go_upto_region 7 with fail
        (try rw [hx]); (try rw [kw])
        by_cases q1 : fr ≤ 24
        · have g1 : decide (fr ≤ 24) = true := by simpa using q1
          by_cases q2 : 0 ≤ x
          · have g2 : decide (0 ≤ x) = true := by simpa using q2
            have g3 : decide (x < (n : Int)) = false := by simp; omega
            clear hx kw hr3
            go_wp2_with fail
            go_roundw
            case rel => exact ⟨i + 1, by omega, by go_num, RN⟩
            case measure => simp [intOf]; omega
          · have g2 : decide (0 ≤ x) = false := by simpa using q2
            clear hx kw hr3
            go_wp2_with fail
            go_roundw
            case rel => exact ⟨i + 1, by omega, by go_num, RN⟩
            case measure => simp [intOf]; omega
        · have g1 : decide (fr ≤ 24) = false := by simpa using q1
          clear hx kw hr3
          go_wp2_with fail
          go_roundw
          case rel => exact ⟨i + 1, by omega, by go_num, RN⟩
          case measure => simp [intOf]; omega
    · have hi24 : i = 24 := by omega
      subst hi24
      rw [show ((24 : Nat) : Int) = 24 from rfl]
      have RF := Lib.hid (R.out.congr (F' := oneF) (Q' := gwQ fr L n) (fun _ _ => rfl) (rgQ_24 fr n L))
      have P1 := RF.out.pB
      have P2 := RF.out.fB
      have P3 := RF.out.qB
      clear R
      have SC := Lib.hid (rstep_all c h f oneF (gwQ fr L n) bf _ wr (RF.out.upd.cellc HC.out) ((RF.out.upd.frozen hcb).trans HF.out) P2)
      go_wp2_with (first | (refine wpList_load_row rfl 25 _ rfl (w.heap.size) rfl 25 _ (0, 0) _ (P1) Try.underlying25 rfl (icov.trans (by rw [arrv_size])) ?_) | (refine wpList_load_row rfl 23 _ rfl (bq) rfl 23 _ (0, 0) _ (P3) Try.underlying23 rfl (icol.trans (by rw [arrv_size])) ?_) | (go_at_call 8; (refine SC.out.mono ?_); rintro e w8 ⟨rfl, hu8⟩; have Z8 := RF.out.r0.upd hu8 (by omega); have U8 := Lib.hid (RF.out.upd.trans hu8); clear hu8) | (refine wpList_store_row rfl 25 _ _ rfl (w.heap.size + 1) _ rfl rfl 25 _ (Z8) (icov.trans (by rw [arrv_size])) (by rw [arrv_size, arrv_size]) (oneCell_arrv _ _) ?_))
      refine bodyPost_ret (results_cell_row Try.results21 _ _ (w.heap.size + 1) 25 (arrv 300 (stepF f oneF (gwQ fr L n))) (0, 0) _ rfl (setRow_heap _ _ _ _ _ _ Z8) Try.underlying25 rfl (icov.trans (by rw [arrv_size]))) rfl ⟨rfl, ?_⟩
      exact U8.out.then' (below_row (Below.refl _ _) (by omega) _)
end Go.Proofs.Ytokcdlcmamdloaa
