/- Contracts of the program's functions and plain laws, part 18: they hold for all arguments. -/
import Derived.Test.YtiajjiphknlldaaGreatQ17
import Derived.Test.YtiajjiphknlldaaGreatQ05
import Derived.Test.YtiajjiphknlldaaGreatQ14
import Derived.Test.YtiajjiphknlldaaGreatQ04
/- Contracts of the reference's estimate (2): Good, Keep, Add. -/
namespace Go.Proofs.YtiajjiphknlldaaGreat
open Go.RowKit
set_option maxRecDepth 100000
set_option maxHeartbeats 8000000 in
theorem rkeep16_any (c : Addr) (h : Bool) (S : Nat → Int) (w : World) (hc : w.cell? c = some (.bool h)) (hf : w.frozen? c = false) :
    Calls Tryz.prog 20 #[.pointer (some c), .agg (arrv 24 S)] w fun e w' => e = .returned (.agg (arrv 24 (keepF S))) ∧ Upd c (h || keepH S) w w' := by
  have hcb := World.block_lt_of_cell? w c hc
  have S0 : Hid (KpR c h S w ((w.alloc (.cells (arrv 24 S) 23)).alloc (.cells #[.int .i64 0, .int .i64 0, .int .i64 0, .int .i64 0, .int .i64 0, .int .i64 0, .int .i64 0, .int .i64 0, .int .i64 0, .int .i64 0, .int .i64 0, .int .i64 0, .int .i64 0, .int .i64 0, .int .i64 0, .int .i64 0, .int .i64 0, .int .i64 0, .int .i64 0, .int .i64 0, .int .i64 0, .int .i64 0, .int .i64 0, .int .i64 0] 23))) := Lib.hid
    ⟨Upd.then (Upd.refl hc) (by (repeat (first | with_reducible exact Below.refl _ _ | with_reducible apply Below.drew | (with_reducible refine below_drewN ?_ _) | (with_reducible refine Below.alloc ?_ (by (try simp) <;> omega) _) | (with_reducible refine Below.setCell ?_ (by (try simp) <;> omega) _)))), (Blk.new w _ 24 _).alloc _, by rw [zvec24]; exact Blk.new1 w _ _ 24 _⟩
  have HC := Lib.hid hc
  have HF := Lib.hid hf
  clear hc hf
  go_enter Tryz.func20, Tryz.ntmps20
  go_upto_region 1 with fail
  generalize (w.alloc (.cells (arrv 24 S) 23)).alloc (.cells #[.int .i64 0, .int .i64 0, .int .i64 0, .int .i64 0, .int .i64 0, .int .i64 0, .int .i64 0, .int .i64 0, .int .i64 0, .int .i64 0, .int .i64 0, .int .i64 0, .int .i64 0, .int .i64 0, .int .i64 0, .int .i64 0, .int .i64 0, .int .i64 0, .int .i64 0, .int .i64 0, .int .i64 0, .int .i64 0, .int .i64 0, .int .i64 0] 23) = W0 at *
  have P0 := S0.out.blk
  go_upto_region 2 with (first | (refine wpList_load_row rfl 23 _ rfl (w.heap.size) rfl 23 _ (0, 0) _ (P0) Tryz.underlying23 rfl (ist.trans (by rw [arrv_size])) ?_) | (go_at_call 44; (refine (ratt_any S _).mono ?_); rintro e w1 ⟨rfl, hb1⟩; have S1 := Lib.hid (S0.out.down hb1); have R1 : Blk (w1.alloc (.cells #[.int .i64 0, .int .i64 0, .int .i64 0, .int .i64 0] 99)) w1.heap.size 99 4 (fun _ => 0) := (by rw [zq4]; exact Blk.new _ _ 4 _); clear hb1) | (refine wpList_store_row rfl 99 _ _ rfl (w1.heap.size) _ rfl rfl 99 _ (R1) (irq.trans (by rw [arrv_size])) (by rw [arrv_size, arrv_size]) (oneCell_arrv _ _) ?_))
  have hq0 : w.heap.size + 1 < w1.heap.size := S1.out.res.lt
  have S2 := Lib.hid (S1.out.down (below_row ((Below.refl w1.heap.size w1).alloc (Nat.le_refl _) (.cells #[.int .i64 0, .int .i64 0, .int .i64 0, .int .i64 0] 99)) (Nat.le_refl _) (arrv 4 S)))
  have Q2 := Lib.hid (R1.setRow S)
  obtain ⟨bq, hbq⟩ : ∃ x, w1.heap.size = x := ⟨_, rfl⟩
  generalize (w1.alloc (.cells #[.int .i64 0, .int .i64 0, .int .i64 0, .int .i64 0] 99)).setRow w1.heap.size (arrv 4 S) = W2 at *
  rw [hbq] at Q2 hq0 ⊢
  clear R1 hbq S1 P0 S0
  have q2 := Q2.out
  by_cases hu : unitB S = true
  · go_upto_region 4 with (first | (refine wpList_load_row rfl 99 _ rfl (bq) rfl 99 _ (0, 0) _ (q2) Tryz.underlying99 rfl (irq.trans (by rw [arrv_size])) ?_) | (go_at_call 45; (refine (rnear_any S _).mono ?_); rintro e w3 ⟨rfl, hb3⟩; (rw [hu]); have S5 := Lib.hid (S2.out.down hb3); clear hb3))
    obtain ⟨T, hT⟩ : ∃ T, S = T := ⟨_, rfl⟩
    obtain ⟨H1, hH1⟩ : ∃ y, h = y := ⟨_, rfl⟩
    have E := Lib.hid (show keepF S = clmF T ∧ (h || keepH S) = (H1 || orB (clmP T) 20) by rw [← hT, ← hH1]; unfold keepF keepH keepI clmH; rw [if_pos hu, if_pos hu, Bool.false_or]; exact ⟨rfl, rfl⟩)
    have S6 : Hid (KpR c H1 T w w3) := by rw [← hT, ← hH1]; exact S5
    clear S5
    clear hT hH1 hu q2 Q2 S2
    go_wp2_with fail
    go_loopw [6] (fun i wr => ∃ k : Nat, k ≤ 20 ∧ i = .int .i64 ((4 + k : Nat) : Int) ∧ Hid (KpR c (H1 || orB (clmP T) k) (clmI T k) w wr)) (fun i _ => 24 - (intOf i).toNat)
    case atStart => exact ⟨0, by omega, rfl, Lib.hid (by rw [show (H1 || orB (clmP T) 0) = H1 from by simp [orB], show clmI T 0 = T from by funext i; simp only [clmI, clmF]; split <;> rfl]; exact S6.out)⟩
    case round =>
      obtain ⟨k, hk, rfl, R⟩ := hrel
      clear S6
      by_cases hlt : k < 20
      · obtain ⟨i, hi⟩ : ∃ i : Nat, 4 + k = i := ⟨_, rfl⟩
        rw [hi]
        have hi24 : i < 24 := by omega
        have d1 : decide ((i : Int) < 24) = true := by simp; omega
        have k0 : (0 : Int) ≤ (i : Int) := Int.natCast_nonneg _
        have k1 : (i : Int) < 24 := by omega
        have hM := boxF_bd i
        have b0 := R.out.blk.cell (i := i) hi24
        rw [show clmI T k i = T i from by unfold clmI; rw [if_neg (by omega)]] at b0
        have BC := Lib.hid (fun (x : World) => rbound_any i x hi24)
        obtain ⟨H2, hH2⟩ : ∃ y, (H1 || orB (clmP T) k) = y := ⟨_, rfl⟩
        rw [hH2] at R
        have EV := Lib.hid (show clmF T i = clampV (T i) (-(boxF i)) (boxF i) ∧ clmP T k = clampH (T i) (-(boxF i)) (boxF i) from ⟨by unfold clmF; rw [if_neg (by omega)], by unfold clmP; rw [hi]⟩)
        obtain ⟨M, hMe⟩ : ∃ M, boxF i = M := ⟨_, rfl⟩
        rw [hMe] at hM BC EV
        have hneg := neg_in M (by omega)
        have CL := Lib.hid (rclamp_any c H2 (T i) (-M) M wr.drew (by exact R.out.upd.cellc HC.out) (by exact (R.out.upd.frozen hcb).trans HF.out))
        obtain ⟨CV, hCV⟩ : ∃ y, clampV (T i) (-M) M = y := ⟨_, rfl⟩
        obtain ⟨CH, hCH⟩ : ∃ y, clampH (T i) (-M) M = y := ⟨_, rfl⟩
        rw [hCV, hCH] at CL EV
        have EK := Lib.hid (And.intro hH2 hi)
        obtain ⟨x, hx⟩ : ∃ x, T i = x := ⟨_, rfl⟩
        rw [hx] at b0 CL
        have RD := Lib.hid (KpR.mk (w := w) R.out.upd.drew R.out.blk R.out.res)
        have R1 := Lib.hid R.out.blk
        clear R hH2 hMe hM hCV hCH hx hi
        go_upto_region 7 with fail
        refine wp_region_M (fun w' => w'.cell? ⟨w.heap.size, i, none⟩ = some (.int .i64 x)) 14 (by kernel_rfl) ?_ (fun hHeld => ?_)
        · exact b0
        refine wpAnyM_take 0 (v := ?_) rfl (by kernel_rfl) (fun _ _ _ h => h) (Or.inl ⟨by rfl, ?_⟩) (by assumption) ?_
        rotate_left
        · (intro wx hSw; (try dsimp only at hSw); go_simp; (try with_reducible rfl))
        (try simp only [Act.put, nA, nB, nC])
        refine wpAnyM_take 1 (v := ?_) rfl (by kernel_rfl) (fun _ _ _ h => h) (Or.inl ⟨by rfl, ?_⟩) (by assumption) ?_
        rotate_left
        · (intro wx hSw; (try dsimp only at hSw); go_simp; (try with_reducible rfl))
        (try simp only [Act.put, nA, nB, nC])
        refine wpAnyM_take 2 (v := ?_) rfl (by kernel_rfl) (fun _ _ _ h => h) (Or.inl ⟨by rfl, ?_⟩) (by assumption) ?_
        rotate_left
        · (intro wx hSw; (try dsimp only at hSw); go_simp; (try with_reducible rfl))
        (try simp only [Act.put, nA, nB, nC])
        refine wpAnyM_take 3 (v := ?_) rfl (by kernel_rfl) (fun _ _ _ h => h) (Or.inl ⟨by rfl, ?_⟩) (by assumption) ?_
        rotate_left
        · (intro wx hSw; (try dsimp only at hSw); go_simp; (try with_reducible rfl))
        (try simp only [Act.put, nA, nB, nC])
        refine wpAnyM_take 4 (v := ?_) rfl (by kernel_rfl) (fun _ _ _ h => h) (Or.inl ⟨by rfl, ?_⟩) (by assumption) ?_
        rotate_left
        · (intro wx hSw; (try dsimp only at hSw); go_simp; (try with_reducible rfl))
        (try simp only [Act.put, nA, nB, nC])
        refine wpAnyM_take 5 (v := ?_) rfl (by kernel_rfl) (fun _ _ _ h => h) (Or.inl ⟨by rfl, ?_⟩) (by assumption) ?_
        rotate_left
        · (intro wx hSw; (try dsimp only at hSw); go_simp; (first | rw [if_pos (by omega)] | rw [if_pos ⟨by omega, by omega⟩] | skip); (try with_reducible rfl))
        (try simp only [Act.put, nA, nB, nC])
        refine wpAnyM_take 6 (v := ?_) rfl (by kernel_rfl) (fun _ _ _ h => h) (Or.inl ⟨by rfl, ?_⟩) (by assumption) ?_
        rotate_left
        · (intro wx hSw; (try dsimp only at hSw); go_simp; (try with_reducible rfl))
        (try simp only [Act.put, nA, nB, nC])
        refine wpAnyM_take 7 (v := ?_) rfl (by kernel_rfl) (fun _ _ _ h => h) (Or.inl ⟨by rfl, ?_⟩) (by assumption) ?_
        rotate_left
        · (intro wx hSw; (try dsimp only at hSw); go_simp; (try with_reducible rfl))
        (try simp only [Act.put, nA, nB, nC])
        refine wpAnyM_take 10 (v := ?_) rfl (by kernel_rfl) (fun _ _ _ h => h) (Or.inl ⟨by rfl, ?_⟩) (by assumption) ?_
        rotate_left
        · (intro wx hSw; (try dsimp only at hSw); go_simp; (try with_reducible rfl))
        (try simp only [Act.put, nA, nB, nC])
        refine wpAnyM_oneS 8 rfl (by kernel_rfl) (fun K hK => ?_)
        go_simp
        (refine (BC.out _).mono ?_); rintro e w5 ⟨rfl, rfl⟩
        (try dsimp only)
        (try simp only [Act.put, nA, nB, nC])
        clear hHeld
        refine hK.out _ _ ?_ (fun hHeld => ?_)
        · exact b0
        clear hK K
        (try simp only [Act.put, nA, nB, nC])
        refine wpAnyM_take 9 (v := ?_) rfl (by kernel_rfl) (fun _ _ _ h => h) (Or.inl ⟨by rfl, ?_⟩) (by assumption) ?_
        rotate_left
        · (intro wx hSw; go_simp; (try rw [hneg]); (try with_reducible rfl))
        (try simp only [Act.put, nA, nB, nC])
        refine wpAnyM_oneS 11 rfl (by kernel_rfl) (fun K hK => ?_)
        go_simp
        (refine (BC.out _).mono ?_); rintro e w6 ⟨rfl, rfl⟩
        (try dsimp only)
        (try simp only [Act.put, nA, nB, nC])
        clear hHeld
        refine hK.out _ _ ?_ (fun hHeld => ?_)
        · exact b0
        clear hK K
        (try simp only [Act.put, nA, nB, nC])
        refine wpAnyM_oneS 12 rfl (by kernel_rfl) (fun K hK => ?_)
        go_simp
        (refine CL.out.mono ?_); rintro e w7 ⟨rfl, hw7⟩; have R3 := Lib.hid (RD.out.upd' hcb ((Upd.set c (H2 || CH) wr.drew).then (by rw [hw7]; exact Below.refl _ _))); have b1 : w7.cell? ⟨w.heap.size, i, none⟩ = some (.int .i64 x) := (by subst hw7; exact (World.cell?_setCell_other wr.drew c ⟨w.heap.size, i, none⟩ _ (fun e => by rw [e] at hcb; simp at hcb)).trans b0); have b2 := R3.out.blk.free i; clear hw7
        (try dsimp only)
        (try simp only [Act.put, nA, nB, nC])
        clear hHeld
        refine hK.out _ _ ?_ (fun hHeld => ?_)
        · exact b1
        clear hK K
        (try simp only [Act.put, nA, nB, nC])
        refine wpAnyM_take 13 (v := ?_) rfl (by kernel_rfl) (fun _ _ _ h => h) (Or.inl ⟨by rfl, ?_⟩) (by assumption) ?_
        rotate_left
        · (intro wx hSw; (try dsimp only at hSw); go_simp; (first | rw [if_pos (by omega)] | rw [if_pos ⟨by omega, by omega⟩] | skip); (try with_reducible rfl))
        (try simp only [Act.put, nA, nB, nC])
        refine wpAnyM_one 14 rfl (by kernel_rfl) (fun K hK => ?_)
        go_simp
        refine hK.out _ _ (.inl (by kernel_rfl)) (fun _ => ?_)
        clear hK K
        (try simp only [Act.put, nA, nB, nC])
        refine wpAnyM_done (by kernel_rfl) ?_ _
        (try clear hHeld)
        go_wp2_with fail
        go_roundw
        case rel =>
          refine ⟨k + 1, by omega, by rw [← EK.out.2]; go_num, Lib.hid ⟨?_, ?_, R3.out.res.other (by simp) _⟩⟩
          · rw [show (H1 || orB (clmP T) (k + 1)) = (H2 || CH) from by rw [← EK.out.1, ← EV.out.2]; simp [orB, Bool.or_assoc]]
            exact R3.out.upd.setCell (Nat.le_refl _) _
          · refine (R3.out.blk.set _ _).congr fun j hj => ?_
            have hk4 := EK.out.2
            simp only [Go.Proofs.YtiajjiphknlldaaGreat.upd, clmI]
            by_cases h1 : j = i
            · subst h1; rw [if_pos rfl, if_pos (by omega), EV.out.1]
            · rw [if_neg h1]; split <;> split <;> first | rfl | omega
        case measure => simp [intOf]; omega
      · have hk20 : k = 20 := by omega
        subst hk20
        rw [show ((4 + 20 : Nat) : Int) = 24 from rfl]
        have B0 := R.out.blk
        have B1 := R.out.res
        have U := Lib.hid R.out.upd
        clear R hlt hk
        go_wp2_with (first | (refine wpList_load_row rfl 23 _ rfl (w.heap.size) rfl 23 _ (0, 0) _ (B0) Tryz.underlying23 rfl (ist.trans (by rw [arrv_size])) ?_) | (refine wpList_store_row rfl 23 _ _ rfl (w.heap.size + 1) _ rfl rfl 23 _ (B1) (ist.trans (by rw [arrv_size])) (by rw [arrv_size, arrv_size]) (oneCell_arrv _ _) ?_))
        refine bodyPost_ret (results_cell_row Tryz.results20 _ _ (w.heap.size + 1) 23 (arrv 24 (clmI T 20)) (0, 0) _ rfl (setRow_heap _ _ _ _ _ _ B1) Tryz.underlying23 rfl (ist.trans (by rw [arrv_size]))) rfl ⟨?_, ?_⟩
        · rw [E.out.1]
          exact congrArg (fun x => Ending.returned (Value.agg x)) (arrv_congr fun i hi => by unfold clmI; rw [if_pos (by omega)])
        · rw [E.out.2]
          exact U.out.then' (below_row (Below.refl _ _) (by omega) _)
  · have hu2 : unitB S = false := by simpa using hu
    obtain ⟨T, hT⟩ : ∃ T, turnd S (uniV S) = T := ⟨_, rfl⟩
    obtain ⟨H1, hH1⟩ : ∃ y, (h || uniH S) = y := ⟨_, rfl⟩
    have E := Lib.hid (show keepF S = clmF T ∧ (h || keepH S) = (H1 || orB (clmP T) 20) by rw [← hH1]; unfold keepF keepH keepI clmH; rw [if_neg hu, if_neg hu, hT, ← Bool.or_assoc]; exact ⟨rfl, rfl⟩)
    have HT := Lib.hid (And.intro hT hH1)
    clear hT hH1 hu
    go_upto_region 3 with (first | (refine wpList_load_row rfl 99 _ rfl (bq) rfl 99 _ (0, 0) _ (q2) Tryz.underlying99 rfl (irq.trans (by rw [arrv_size])) ?_) | (go_at_call 45; (refine (rnear_any S _).mono ?_); rintro e w3 ⟨rfl, hb3⟩; (rw [hu2]); have S3 := Lib.hid (S2.out.down hb3); have Q3 := Lib.hid (Q2.out.below hb3); clear hb3))
    clear q2 Q2 S2 hu2
    refine wp_region_M (fun w' => Blk w' w.heap.size 23 24 S ∧ Blk w' bq 99 4 S) 5 (by kernel_rfl) ?_ (fun hHeld => ?_)
    · exact ⟨S3.out.blk, Q3.out⟩
    refine wpAnyM_take 0 (v := ?_) rfl (by kernel_rfl) (fun _ _ _ h => h) (Or.inl ⟨by rfl, ?_⟩) (by assumption) ?_
    rotate_left
    · (intro wx hSw; refine Eq.trans (run_load_row 23 (.tmp 3) (by rfl) (w.heap.size) (by rfl) _ _ _ _ (hSw.1) Tryz.underlying23 rfl (ist.trans (by rw [arrv_size]))) ?_; with_reducible rfl)
    (try simp only [Act.put, nA, nB, nC])
    refine wpAnyM_take 1 (v := ?_) rfl (by kernel_rfl) (fun _ _ _ h => h) (Or.inl ⟨by rfl, ?_⟩) (by assumption) ?_
    rotate_left
    · (intro wx hSw; (try dsimp only at hSw); go_simp; (try with_reducible rfl))
    (try simp only [Act.put, nA, nB, nC])
    refine wpAnyM_take 2 (v := ?_) rfl (by kernel_rfl) (fun _ _ _ h => h) (Or.inl ⟨by rfl, ?_⟩) (by assumption) ?_
    rotate_left
    · (intro wx hSw; refine Eq.trans (run_load_row 99 (.tmp 5) (by rfl) (bq) (by rfl) _ _ _ _ (hSw.2) Tryz.underlying99 rfl (irq.trans (by rw [arrv_size]))) ?_; with_reducible rfl)
    (try simp only [Act.put, nA, nB, nC])
    refine wpAnyM_oneS 3 rfl (by kernel_rfl) (fun K hK => ?_)
    go_simp
    (refine (rqunit_any c h S w3.drew (by exact S3.out.upd.cellc HC.out) (by exact (S3.out.upd.frozen hcb).trans HF.out)).mono ?_); rintro e w4 ⟨rfl, hu4⟩; have S4 := Lib.hid (S3.out.drew.upd' hcb hu4); have Q4 := Lib.hid (Blk.upd (w := w3.drew) Q3.out hu4 (by omega)); clear hu4
    (try dsimp only)
    (try simp only [Act.put, nA, nB, nC])
    clear hHeld
    refine hK.out _ _ ?_ (fun hHeld => ?_)
    · exact ⟨S4.out.blk, Q4.out⟩
    clear hK K
    (try simp only [Act.put, nA, nB, nC])
    refine wpAnyM_oneS 4 rfl (by kernel_rfl) (fun K hK => ?_)
    go_simp
    (refine (rturn_any S (uniV S) _).mono ?_); rintro e w5 ⟨rfl, hb5⟩; have S5 := Lib.hid (S4.out.down hb5); have Q5 := Lib.hid (Q4.out.below hb5); clear hb5; (rw [HT.out.1]); have P5 := S5.out.blk
    (try dsimp only)
    (try simp only [Act.put, nA, nB, nC])
    clear hHeld
    refine hK.out _ _ ?_ (fun hHeld => ?_)
    · exact ⟨S5.out.blk, Q5.out⟩
    clear hK K
    (try simp only [Act.put, nA, nB, nC])
    refine wpAnyM_one 5 rfl (by kernel_rfl) (fun K hK => ?_)
    go_simp; rw [if_pos (arrv_size _ _), run_storeCells_row _ P5]; go_simp
    refine hK.out _ _ (.inl (by kernel_rfl)) (fun _ => ?_)
    clear hK K
    (try simp only [Act.put, nA, nB, nC])
    refine wpAnyM_done (by kernel_rfl) ?_ _
    (try clear hHeld)
    have S6 : Hid (KpR c H1 T w (w5.setRow w.heap.size (arrv 24 T))) := Lib.hid (by rw [← HT.out.2]; exact S5.out.row T)
    generalize w5.setRow w.heap.size (arrv 24 T) = W6 at *
    clear S3 Q3 S4 Q4 S5 Q5 P5 HT
    go_wp2_with fail
    go_loopw [6] (fun i wr => ∃ k : Nat, k ≤ 20 ∧ i = .int .i64 ((4 + k : Nat) : Int) ∧ Hid (KpR c (H1 || orB (clmP T) k) (clmI T k) w wr)) (fun i _ => 24 - (intOf i).toNat)
    case atStart => exact ⟨0, by omega, rfl, Lib.hid (by rw [show (H1 || orB (clmP T) 0) = H1 from by simp [orB], show clmI T 0 = T from by funext i; simp only [clmI, clmF]; split <;> rfl]; exact S6.out)⟩
    case round =>
      obtain ⟨k, hk, rfl, R⟩ := hrel
      clear S6
      by_cases hlt : k < 20
      · obtain ⟨i, hi⟩ : ∃ i : Nat, 4 + k = i := ⟨_, rfl⟩
        rw [hi]
        have hi24 : i < 24 := by omega
        have d1 : decide ((i : Int) < 24) = true := by simp; omega
        have k0 : (0 : Int) ≤ (i : Int) := Int.natCast_nonneg _
        have k1 : (i : Int) < 24 := by omega
        have hM := boxF_bd i
        have b0 := R.out.blk.cell (i := i) hi24
        rw [show clmI T k i = T i from by unfold clmI; rw [if_neg (by omega)]] at b0
        have BC := Lib.hid (fun (x : World) => rbound_any i x hi24)
        obtain ⟨H2, hH2⟩ : ∃ y, (H1 || orB (clmP T) k) = y := ⟨_, rfl⟩
        rw [hH2] at R
        have EV := Lib.hid (show clmF T i = clampV (T i) (-(boxF i)) (boxF i) ∧ clmP T k = clampH (T i) (-(boxF i)) (boxF i) from ⟨by unfold clmF; rw [if_neg (by omega)], by unfold clmP; rw [hi]⟩)
        obtain ⟨M, hMe⟩ : ∃ M, boxF i = M := ⟨_, rfl⟩
        rw [hMe] at hM BC EV
        have hneg := neg_in M (by omega)
        have CL := Lib.hid (rclamp_any c H2 (T i) (-M) M wr.drew (by exact R.out.upd.cellc HC.out) (by exact (R.out.upd.frozen hcb).trans HF.out))
        obtain ⟨CV, hCV⟩ : ∃ y, clampV (T i) (-M) M = y := ⟨_, rfl⟩
        obtain ⟨CH, hCH⟩ : ∃ y, clampH (T i) (-M) M = y := ⟨_, rfl⟩
        rw [hCV, hCH] at CL EV
        have EK := Lib.hid (And.intro hH2 hi)
        obtain ⟨x, hx⟩ : ∃ x, T i = x := ⟨_, rfl⟩
        rw [hx] at b0 CL
        have RD := Lib.hid (KpR.mk (w := w) R.out.upd.drew R.out.blk R.out.res)
        have R1 := Lib.hid R.out.blk
        clear R hH2 hMe hM hCV hCH hx hi
        go_upto_region 7 with fail
        refine wp_region_M (fun w' => w'.cell? ⟨w.heap.size, i, none⟩ = some (.int .i64 x)) 14 (by kernel_rfl) ?_ (fun hHeld => ?_)
        · exact b0
        refine wpAnyM_take 0 (v := ?_) rfl (by kernel_rfl) (fun _ _ _ h => h) (Or.inl ⟨by rfl, ?_⟩) (by assumption) ?_
        rotate_left
        · (intro wx hSw; (try dsimp only at hSw); go_simp; (try with_reducible rfl))
        (try simp only [Act.put, nA, nB, nC])
        refine wpAnyM_take 1 (v := ?_) rfl (by kernel_rfl) (fun _ _ _ h => h) (Or.inl ⟨by rfl, ?_⟩) (by assumption) ?_
        rotate_left
        · (intro wx hSw; (try dsimp only at hSw); go_simp; (try with_reducible rfl))
        (try simp only [Act.put, nA, nB, nC])
        refine wpAnyM_take 2 (v := ?_) rfl (by kernel_rfl) (fun _ _ _ h => h) (Or.inl ⟨by rfl, ?_⟩) (by assumption) ?_
        rotate_left
        · (intro wx hSw; (try dsimp only at hSw); go_simp; (try with_reducible rfl))
        (try simp only [Act.put, nA, nB, nC])
        refine wpAnyM_take 3 (v := ?_) rfl (by kernel_rfl) (fun _ _ _ h => h) (Or.inl ⟨by rfl, ?_⟩) (by assumption) ?_
        rotate_left
        · (intro wx hSw; (try dsimp only at hSw); go_simp; (try with_reducible rfl))
        (try simp only [Act.put, nA, nB, nC])
        refine wpAnyM_take 4 (v := ?_) rfl (by kernel_rfl) (fun _ _ _ h => h) (Or.inl ⟨by rfl, ?_⟩) (by assumption) ?_
        rotate_left
        · (intro wx hSw; (try dsimp only at hSw); go_simp; (try with_reducible rfl))
        (try simp only [Act.put, nA, nB, nC])
        refine wpAnyM_take 5 (v := ?_) rfl (by kernel_rfl) (fun _ _ _ h => h) (Or.inl ⟨by rfl, ?_⟩) (by assumption) ?_
        rotate_left
        · (intro wx hSw; (try dsimp only at hSw); go_simp; (first | rw [if_pos (by omega)] | rw [if_pos ⟨by omega, by omega⟩] | skip); (try with_reducible rfl))
        (try simp only [Act.put, nA, nB, nC])
        refine wpAnyM_take 6 (v := ?_) rfl (by kernel_rfl) (fun _ _ _ h => h) (Or.inl ⟨by rfl, ?_⟩) (by assumption) ?_
        rotate_left
        · (intro wx hSw; (try dsimp only at hSw); go_simp; (try with_reducible rfl))
        (try simp only [Act.put, nA, nB, nC])
        refine wpAnyM_take 7 (v := ?_) rfl (by kernel_rfl) (fun _ _ _ h => h) (Or.inl ⟨by rfl, ?_⟩) (by assumption) ?_
        rotate_left
        · (intro wx hSw; (try dsimp only at hSw); go_simp; (try with_reducible rfl))
        (try simp only [Act.put, nA, nB, nC])
        refine wpAnyM_take 10 (v := ?_) rfl (by kernel_rfl) (fun _ _ _ h => h) (Or.inl ⟨by rfl, ?_⟩) (by assumption) ?_
        rotate_left
        · (intro wx hSw; (try dsimp only at hSw); go_simp; (try with_reducible rfl))
        (try simp only [Act.put, nA, nB, nC])
        refine wpAnyM_oneS 8 rfl (by kernel_rfl) (fun K hK => ?_)
        go_simp
        (refine (BC.out _).mono ?_); rintro e w5 ⟨rfl, rfl⟩
        (try dsimp only)
        (try simp only [Act.put, nA, nB, nC])
        clear hHeld
        refine hK.out _ _ ?_ (fun hHeld => ?_)
        · exact b0
        clear hK K
        (try simp only [Act.put, nA, nB, nC])
        refine wpAnyM_take 9 (v := ?_) rfl (by kernel_rfl) (fun _ _ _ h => h) (Or.inl ⟨by rfl, ?_⟩) (by assumption) ?_
        rotate_left
        · (intro wx hSw; go_simp; (try rw [hneg]); (try with_reducible rfl))
        (try simp only [Act.put, nA, nB, nC])
        refine wpAnyM_oneS 11 rfl (by kernel_rfl) (fun K hK => ?_)
        go_simp
        (refine (BC.out _).mono ?_); rintro e w6 ⟨rfl, rfl⟩
        (try dsimp only)
        (try simp only [Act.put, nA, nB, nC])
        clear hHeld
        refine hK.out _ _ ?_ (fun hHeld => ?_)
        · exact b0
        clear hK K
        (try simp only [Act.put, nA, nB, nC])
        refine wpAnyM_oneS 12 rfl (by kernel_rfl) (fun K hK => ?_)
        go_simp
        (refine CL.out.mono ?_); rintro e w7 ⟨rfl, hw7⟩; have R3 := Lib.hid (RD.out.upd' hcb ((Upd.set c (H2 || CH) wr.drew).then (by rw [hw7]; exact Below.refl _ _))); have b1 : w7.cell? ⟨w.heap.size, i, none⟩ = some (.int .i64 x) := (by subst hw7; exact (World.cell?_setCell_other wr.drew c ⟨w.heap.size, i, none⟩ _ (fun e => by rw [e] at hcb; simp at hcb)).trans b0); have b2 := R3.out.blk.free i; clear hw7
        (try dsimp only)
        (try simp only [Act.put, nA, nB, nC])
        clear hHeld
        refine hK.out _ _ ?_ (fun hHeld => ?_)
        · exact b1
        clear hK K
        (try simp only [Act.put, nA, nB, nC])
        refine wpAnyM_take 13 (v := ?_) rfl (by kernel_rfl) (fun _ _ _ h => h) (Or.inl ⟨by rfl, ?_⟩) (by assumption) ?_
        rotate_left
        · (intro wx hSw; (try dsimp only at hSw); go_simp; (first | rw [if_pos (by omega)] | rw [if_pos ⟨by omega, by omega⟩] | skip); (try with_reducible rfl))
        (try simp only [Act.put, nA, nB, nC])
        refine wpAnyM_one 14 rfl (by kernel_rfl) (fun K hK => ?_)
        go_simp
        refine hK.out _ _ (.inl (by kernel_rfl)) (fun _ => ?_)
        clear hK K
        (try simp only [Act.put, nA, nB, nC])
        refine wpAnyM_done (by kernel_rfl) ?_ _
        (try clear hHeld)
        go_wp2_with fail
        go_roundw
        case rel =>
          refine ⟨k + 1, by omega, by rw [← EK.out.2]; go_num, Lib.hid ⟨?_, ?_, R3.out.res.other (by simp) _⟩⟩
          · rw [show (H1 || orB (clmP T) (k + 1)) = (H2 || CH) from by rw [← EK.out.1, ← EV.out.2]; simp [orB, Bool.or_assoc]]
            exact R3.out.upd.setCell (Nat.le_refl _) _
          · refine (R3.out.blk.set _ _).congr fun j hj => ?_
            have hk4 := EK.out.2
            simp only [Go.Proofs.YtiajjiphknlldaaGreat.upd, clmI]
            by_cases h1 : j = i
            · subst h1; rw [if_pos rfl, if_pos (by omega), EV.out.1]
            · rw [if_neg h1]; split <;> split <;> first | rfl | omega
        case measure => simp [intOf]; omega
      · have hk20 : k = 20 := by omega
        subst hk20
        rw [show ((4 + 20 : Nat) : Int) = 24 from rfl]
        have B0 := R.out.blk
        have B1 := R.out.res
        have U := Lib.hid R.out.upd
        clear R hlt hk
        go_wp2_with (first | (refine wpList_load_row rfl 23 _ rfl (w.heap.size) rfl 23 _ (0, 0) _ (B0) Tryz.underlying23 rfl (ist.trans (by rw [arrv_size])) ?_) | (refine wpList_store_row rfl 23 _ _ rfl (w.heap.size + 1) _ rfl rfl 23 _ (B1) (ist.trans (by rw [arrv_size])) (by rw [arrv_size, arrv_size]) (oneCell_arrv _ _) ?_))
        refine bodyPost_ret (results_cell_row Tryz.results20 _ _ (w.heap.size + 1) 23 (arrv 24 (clmI T 20)) (0, 0) _ rfl (setRow_heap _ _ _ _ _ _ B1) Tryz.underlying23 rfl (ist.trans (by rw [arrv_size]))) rfl ⟨?_, ?_⟩
        · rw [E.out.1]
          exact congrArg (fun x => Ending.returned (Value.agg x)) (arrv_congr fun i hi => by unfold clmI; rw [if_pos (by omega)])
        · rw [E.out.2]
          exact U.out.then' (below_row (Below.refl _ _) (by omega) _)
/-- A state that has just been turned by a Unit is near One. -/
theorem keepI_unit (S Q : Nat → Int) : keepI (turnd S (uniV Q)) = turnd S (uniV Q) ∧ unitB (turnd S (uniV Q)) = true := by
  have h : unitB (turnd S (uniV Q)) = true := by
    rw [unitB_iff]
    have g := unit_good Q
    have e : ∀ i, i < 4 → turnd S (uniV Q) i = uniV Q i := fun i hi => by unfold turnd; rw [if_pos hi]
    unfold UnitQ at g ⊢
    rw [e 0 (by decide), e 1 (by decide), e 2 (by decide), e 3 (by decide)]
    exact ⟨fun i hi => by rw [e i hi]; exact g.1 i hi, g.2⟩
  exact ⟨by unfold keepI; rw [if_pos h], h⟩
structure RadR (c : Addr) (h : Bool) (S D g : Nat → Int) (w wr : World) : Prop where
  upd : Upd c h w wr
  sB : Blk wr w.heap.size 23 24 g
  dB : Blk wr (w.heap.size + 1) 22 24 D
  rB : Blk wr (w.heap.size + 1 + 1) 23 24 (fun _ => 0)
theorem RadR.upd' {c : Addr} {h h' : Bool} {S D g : Nat → Int} {w wr w' : World} (s : RadR c h S D g w wr) (hc : c.block < w.heap.size) (u : Upd c h' wr w') : RadR c h' S D g w w' :=
  ⟨s.upd.trans u, s.sB.upd u (by omega), s.dB.upd u (by omega), s.rB.upd u (by omega)⟩
theorem RadR.down {c : Addr} {h : Bool} {S D g : Nat → Int} {w wr w' : World} (s : RadR c h S D g w wr) (u : Below wr.heap.size wr w') : RadR c h S D g w w' :=
  ⟨s.upd.then u, s.sB.below u, s.dB.below u, s.rB.below u⟩
theorem RadR.drew {c : Addr} {h : Bool} {S D g : Nat → Int} {w wr : World} (s : RadR c h S D g w wr) : RadR c h S D g w wr.drew := ⟨s.upd.drew, s.sB, s.dB, s.rB⟩
theorem RadR.row {c : Addr} {h : Bool} {S D g : Nat → Int} {w wr : World} (s : RadR c h S D g w wr) (f : Nat → Int) : RadR c h S D f w (wr.setRow w.heap.size (arrv 24 f)) :=
  ⟨s.upd.then' (below_row (Below.refl _ _) (Nat.le_refl _) _), s.sB.setRow f, s.dB.setRow_other _ (by omega), s.rB.setRow_other _ (by omega)⟩
set_option maxHeartbeats 8000000 in
theorem radd16_any (c : Addr) (h : Bool) (S D : Nat → Int) (w : World) (hc : w.cell? c = some (.bool h)) (hf : w.frozen? c = false) :
    Calls Tryz.prog 27 #[.pointer (some c), .agg (arrv 24 S), .agg (arrv 24 D)] w fun e w' => e = .returned (.agg (arrv 24 (add1F S D))) ∧ Upd c (h || add1H S D) w w' := by
  have hcb := World.block_lt_of_cell? w c hc
  have S0 : Hid (RadR c h S D (sumK S D 0) w (((w.alloc (.cells (arrv 24 S) 23)).alloc (.cells (arrv 24 D) 22)).alloc (.cells #[.int .i64 0, .int .i64 0, .int .i64 0, .int .i64 0, .int .i64 0, .int .i64 0, .int .i64 0, .int .i64 0, .int .i64 0, .int .i64 0, .int .i64 0, .int .i64 0, .int .i64 0, .int .i64 0, .int .i64 0, .int .i64 0, .int .i64 0, .int .i64 0, .int .i64 0, .int .i64 0, .int .i64 0, .int .i64 0, .int .i64 0, .int .i64 0] 23))) := Lib.hid
    ⟨Upd.then (Upd.refl hc) (by (repeat (first | with_reducible exact Below.refl _ _ | with_reducible apply Below.drew | (with_reducible refine below_drewN ?_ _) | (with_reducible refine Below.alloc ?_ (by (try simp) <;> omega) _) | (with_reducible refine Below.setCell ?_ (by (try simp) <;> omega) _)))), (((Blk.new w _ 24 _).alloc _).alloc _).congr fun i hi => by simp [sumK], (Blk.new1 w _ _ 24 _).alloc _, by rw [zvec24]; exact blk_new2 w _ _ _ 24 _⟩
  have HC := Lib.hid hc
  have HF := Lib.hid hf
  clear hc hf
  go_enter Tryz.func27, Tryz.ntmps27
  go_upto_region 1 with fail
  generalize ((w.alloc (.cells (arrv 24 S) 23)).alloc (.cells (arrv 24 D) 22)).alloc (.cells #[.int .i64 0, .int .i64 0, .int .i64 0, .int .i64 0, .int .i64 0, .int .i64 0, .int .i64 0, .int .i64 0, .int .i64 0, .int .i64 0, .int .i64 0, .int .i64 0, .int .i64 0, .int .i64 0, .int .i64 0, .int .i64 0, .int .i64 0, .int .i64 0, .int .i64 0, .int .i64 0, .int .i64 0, .int .i64 0, .int .i64 0, .int .i64 0] 23) = W0 at *
  go_wp2_with fail
  go_loopw [7] (fun i wr => ∃ k : Nat, k ≤ 24 ∧ i = .int .i64 k ∧ Hid (RadR c (h || orB (fun i => addH (S i) (D i)) k) S D (sumK S D k) w wr)) (fun i _ => 24 - (intOf i).toNat)
  case atStart => exact ⟨0, by omega, rfl, by rw [show (h || orB (fun i => addH (S i) (D i)) 0) = h from by simp [orB]]; exact S0⟩
  case round =>
    obtain ⟨k, hk, rfl, R⟩ := hrel
    clear S0
    by_cases hlt : k < 24
    · have d1 : decide ((k : Int) < 24) = true := by simp; omega
      have k0 : (0 : Int) ≤ (k : Int) := Int.natCast_nonneg _
      have k1 : (k : Int) < 24 := by omega
      have b0 := R.out.sB.cell (i := k) hlt
      rw [show sumK S D k k = S k from by simp [sumK]] at b0
      have e0 := R.out.dB.cell (i := k) hlt
      obtain ⟨H2, hH2⟩ : ∃ y, (h || orB (fun i => addH (S i) (D i)) k) = y := ⟨_, rfl⟩
      rw [hH2] at R
      have PL := Lib.hid (rplus_any c H2 (S k) (D k) wr.drew (by exact R.out.upd.cellc HC.out) (by exact (R.out.upd.frozen hcb).trans HF.out))
      have EV := Lib.hid (show satV (satV (S k) + satV (D k)) = addV (S k) (D k) ∧ (H2 || satH (S k) || satH (D k) || satH (satV (S k) + satV (D k))) = (h || orB (fun i => addH (S i) (D i)) (k + 1)) from ⟨rfl, by rw [← hH2]; simp [orB, addH, Bool.or_assoc]⟩)
      rw [EV.out.1, EV.out.2] at PL
      obtain ⟨AV, hAV⟩ : ∃ y, addV (S k) (D k) = y := ⟨_, rfl⟩
      obtain ⟨H3, hH3⟩ : ∃ y, (h || orB (fun i => addH (S i) (D i)) (k + 1)) = y := ⟨_, rfl⟩
      rw [hAV, hH3] at PL
      have EA := Lib.hid (And.intro hAV hH3)
      obtain ⟨x, hx⟩ : ∃ x, S k = x := ⟨_, rfl⟩
      obtain ⟨y, hy⟩ : ∃ y, D k = y := ⟨_, rfl⟩
      rw [hx] at b0 PL
      rw [hy] at e0 PL
      have RD := Lib.hid R.out.drew
      clear R hH2 EV hAV hH3 hx hy
      go_upto_region 4 with fail
      refine wp_region_M (fun w' => w'.cell? ⟨w.heap.size, k, none⟩ = some (.int .i64 x) ∧ w'.cell? ⟨w.heap.size + 1, k, none⟩ = some (.int .i64 y)) 12 (by kernel_rfl) ?_ (fun hHeld => ?_)
      · exact ⟨b0, e0⟩
      refine wpAnyM_take 0 (v := ?_) rfl (by kernel_rfl) (fun _ _ _ h => h) (Or.inl ⟨by rfl, ?_⟩) (by assumption) ?_
      rotate_left
      · (intro wx hSw; (try dsimp only at hSw); go_simp; (try with_reducible rfl))
      (try simp only [Act.put, nA, nB, nC])
      refine wpAnyM_take 1 (v := ?_) rfl (by kernel_rfl) (fun _ _ _ h => h) (Or.inl ⟨by rfl, ?_⟩) (by assumption) ?_
      rotate_left
      · (intro wx hSw; (try dsimp only at hSw); go_simp; (try with_reducible rfl))
      (try simp only [Act.put, nA, nB, nC])
      refine wpAnyM_take 2 (v := ?_) rfl (by kernel_rfl) (fun _ _ _ h => h) (Or.inl ⟨by rfl, ?_⟩) (by assumption) ?_
      rotate_left
      · (intro wx hSw; (try dsimp only at hSw); go_simp; (try with_reducible rfl))
      (try simp only [Act.put, nA, nB, nC])
      refine wpAnyM_take 3 (v := ?_) rfl (by kernel_rfl) (fun _ _ _ h => h) (Or.inl ⟨by rfl, ?_⟩) (by assumption) ?_
      rotate_left
      · (intro wx hSw; (try dsimp only at hSw); go_simp; (try with_reducible rfl))
      (try simp only [Act.put, nA, nB, nC])
      refine wpAnyM_take 4 (v := ?_) rfl (by kernel_rfl) (fun _ _ _ h => h) (Or.inl ⟨by rfl, ?_⟩) (by assumption) ?_
      rotate_left
      · (intro wx hSw; (try dsimp only at hSw); go_simp; (try with_reducible rfl))
      (try simp only [Act.put, nA, nB, nC])
      refine wpAnyM_take 5 (v := ?_) rfl (by kernel_rfl) (fun _ _ _ h => h) (Or.inl ⟨by rfl, ?_⟩) (by assumption) ?_
      rotate_left
      · (intro wx hSw; (try dsimp only at hSw); go_simp; (first | rw [if_pos (by omega)] | rw [if_pos ⟨by omega, by omega⟩] | skip); (try with_reducible rfl))
      (try simp only [Act.put, nA, nB, nC])
      refine wpAnyM_take 6 (v := ?_) rfl (by kernel_rfl) (fun _ _ _ h => h) (Or.inl ⟨by rfl, ?_⟩) (by assumption) ?_
      rotate_left
      · (intro wx hSw; (try dsimp only at hSw); go_simp; (try with_reducible rfl))
      (try simp only [Act.put, nA, nB, nC])
      refine wpAnyM_take 7 (v := ?_) rfl (by kernel_rfl) (fun _ _ _ h => h) (Or.inl ⟨by rfl, ?_⟩) (by assumption) ?_
      rotate_left
      · (intro wx hSw; (try dsimp only at hSw); go_simp; (try with_reducible rfl))
      (try simp only [Act.put, nA, nB, nC])
      refine wpAnyM_take 8 (v := ?_) rfl (by kernel_rfl) (fun _ _ _ h => h) (Or.inl ⟨by rfl, ?_⟩) (by assumption) ?_
      rotate_left
      · (intro wx hSw; (try dsimp only at hSw); go_simp; (first | rw [if_pos (by omega)] | rw [if_pos ⟨by omega, by omega⟩] | skip); (try with_reducible rfl))
      (try simp only [Act.put, nA, nB, nC])
      refine wpAnyM_take 9 (v := ?_) rfl (by kernel_rfl) (fun _ _ _ h => h) (Or.inl ⟨by rfl, ?_⟩) (by assumption) ?_
      rotate_left
      · (intro wx hSw; (try dsimp only at hSw); go_simp; (try with_reducible rfl))
      (try simp only [Act.put, nA, nB, nC])
      refine wpAnyM_oneS 10 rfl (by kernel_rfl) (fun K hK => ?_)
      go_simp
      (refine PL.out.mono ?_); rintro e w7 ⟨rfl, hw7⟩; have R3 := Lib.hid (RD.out.upd' hcb ((Upd.set c H3 wr.drew).then (by rw [hw7]; exact Below.refl _ _))); have b1 : w7.cell? ⟨w.heap.size, k, none⟩ = some (.int .i64 x) ∧ w7.cell? ⟨w.heap.size + 1, k, none⟩ = some (.int .i64 y) := (by subst hw7; exact ⟨(World.cell?_setCell_other wr.drew c ⟨w.heap.size, k, none⟩ _ (fun e => by rw [e] at hcb; simp at hcb)).trans b0, (World.cell?_setCell_other wr.drew c ⟨w.heap.size + 1, k, none⟩ _ (fun e => by rw [e] at hcb; simp at hcb; omega)).trans e0⟩); have b2 := R3.out.sB.free k; have b3 := b1.1; clear hw7
      (try dsimp only)
      (try simp only [Act.put, nA, nB, nC])
      clear hHeld
      refine hK.out _ _ ?_ (fun hHeld => ?_)
      · exact b1
      clear hK K
      (try simp only [Act.put, nA, nB, nC])
      refine wpAnyM_take 11 (v := ?_) rfl (by kernel_rfl) (fun _ _ _ h => h) (Or.inl ⟨by rfl, ?_⟩) (by assumption) ?_
      rotate_left
      · (intro wx hSw; (try dsimp only at hSw); go_simp; (first | rw [if_pos (by omega)] | rw [if_pos ⟨by omega, by omega⟩] | skip); (try with_reducible rfl))
      (try simp only [Act.put, nA, nB, nC])
      refine wpAnyM_one 12 rfl (by kernel_rfl) (fun K hK => ?_)
      go_simp
      refine hK.out _ _ (.inl (by kernel_rfl)) (fun _ => ?_)
      clear hK K
      (try simp only [Act.put, nA, nB, nC])
      refine wpAnyM_done (by kernel_rfl) ?_ _
      (try clear hHeld)
      go_wp2_with fail
      go_roundw
      case rel =>
        refine ⟨k + 1, by omega, by go_num, Lib.hid ⟨?_, ?_, R3.out.dB.other (by simp) _, R3.out.rB.other (by simp; omega) _⟩⟩
        · rw [EA.out.2]
          exact R3.out.upd.setCell (Nat.le_refl _) _
        · refine (R3.out.sB.set _ _).congr fun j hj => ?_
          simp only [Go.Proofs.YtiajjiphknlldaaGreat.upd, sumK]
          by_cases h1 : j = k
          · subst h1; rw [if_pos rfl, if_pos (by omega), EA.out.1]
          · rw [if_neg h1]; split <;> split <;> first | rfl | omega
      case measure => simp [intOf]; omega
    · have hk24 : k = 24 := by omega
      subst hk24
      rw [show ((24 : Nat) : Int) = 24 from rfl]
      obtain ⟨G, hG⟩ : ∃ G, sumA S D = G := ⟨_, rfl⟩
      obtain ⟨H1, hH1⟩ : ∃ y, (h || orB (fun i => addH (S i) (D i)) 24) = y := ⟨_, rfl⟩
      have R2 : Hid (RadR c H1 S D G w wr) := Lib.hid ⟨by rw [← hH1]; exact R.out.upd, R.out.sB.congr fun i hi => by rw [← hG]; unfold sumK sumA; rw [if_pos hi], R.out.dB, R.out.rB⟩
      obtain ⟨T, hT⟩ : ∃ T, turnd G (uniV G) = T := ⟨_, rfl⟩
      have E := Lib.hid (show add1F S D = keepF T ∧ (h || add1H S D) = (H1 || uniH G || keepH T) by
        have hk := keepI_unit G G
        rw [hT] at hk
        rw [← hH1]
        unfold add1F add1H keepF keepH
        rw [hG, hT, hk.1, if_pos hk.2, Bool.false_or]
        exact ⟨rfl, by simp [Bool.or_assoc]⟩)
      clear R hG hH1 hlt hk
      have HT := Lib.hid hT
      clear hT
      go_upto_region 5 with fail
      refine wp_region_M (fun w' => Blk w' w.heap.size 23 24 G) 6 (by kernel_rfl) ?_ (fun hHeld => ?_)
      · exact R2.out.sB
      refine wpAnyM_take 0 (v := ?_) rfl (by kernel_rfl) (fun _ _ _ h => h) (Or.inl ⟨by rfl, ?_⟩) (by assumption) ?_
      rotate_left
      · (intro wx hSw; refine Eq.trans (run_load_row 23 (.tmp 4) (by rfl) (w.heap.size) (by rfl) _ _ _ _ (hSw) Tryz.underlying23 rfl (ist.trans (by rw [arrv_size]))) ?_; with_reducible rfl)
      (try simp only [Act.put, nA, nB, nC])
      refine wpAnyM_take 1 (v := ?_) rfl (by kernel_rfl) (fun _ _ _ h => h) (Or.inl ⟨by rfl, ?_⟩) (by assumption) ?_
      rotate_left
      · (intro wx hSw; (try dsimp only at hSw); go_simp; (try with_reducible rfl))
      (try simp only [Act.put, nA, nB, nC])
      refine wpAnyM_take 2 (v := ?_) rfl (by kernel_rfl) (fun _ _ _ h => h) (Or.inl ⟨by rfl, ?_⟩) (by assumption) ?_
      rotate_left
      · (intro wx hSw; refine Eq.trans (run_load_row 23 (.tmp 4) (by rfl) (w.heap.size) (by rfl) _ _ _ _ (hSw) Tryz.underlying23 rfl (ist.trans (by rw [arrv_size]))) ?_; with_reducible rfl)
      (try simp only [Act.put, nA, nB, nC])
      refine wpAnyM_oneS 3 rfl (by kernel_rfl) (fun K hK => ?_)
      go_simp
      (refine (ratt_any G _).mono ?_); rintro e w3 ⟨rfl, hb3⟩; have S3 := Lib.hid (R2.out.drew.down hb3); clear hb3
      (try dsimp only)
      (try simp only [Act.put, nA, nB, nC])
      clear hHeld
      refine hK.out _ _ ?_ (fun hHeld => ?_)
      · exact S3.out.sB
      clear hK K
      (try simp only [Act.put, nA, nB, nC])
      refine wpAnyM_oneS 4 rfl (by kernel_rfl) (fun K hK => ?_)
      go_simp
      (refine (rqunit_any c H1 G w3 (S3.out.upd.cellc HC.out) ((S3.out.upd.frozen hcb).trans HF.out)).mono ?_); rintro e w4 ⟨rfl, hu4⟩; have S4 := Lib.hid (S3.out.upd' hcb hu4); clear hu4
      (try dsimp only)
      (try simp only [Act.put, nA, nB, nC])
      clear hHeld
      refine hK.out _ _ ?_ (fun hHeld => ?_)
      · exact S4.out.sB
      clear hK K
      (try simp only [Act.put, nA, nB, nC])
      refine wpAnyM_oneS 5 rfl (by kernel_rfl) (fun K hK => ?_)
      go_simp
      (refine (rturn_any G (uniV G) _).mono ?_); rintro e w5 ⟨rfl, hb5⟩; have S5 := Lib.hid (S4.out.down hb5); clear hb5; (rw [HT.out]); have P5 := S5.out.sB
      (try dsimp only)
      (try simp only [Act.put, nA, nB, nC])
      clear hHeld
      refine hK.out _ _ ?_ (fun hHeld => ?_)
      · exact S5.out.sB
      clear hK K
      (try simp only [Act.put, nA, nB, nC])
      refine wpAnyM_one 6 rfl (by kernel_rfl) (fun K hK => ?_)
      go_simp; rw [if_pos (arrv_size _ _), run_storeCells_row _ P5]; go_simp
      refine hK.out _ _ (.inl (by kernel_rfl)) (fun _ => ?_)
      clear hK K
      (try simp only [Act.put, nA, nB, nC])
      refine wpAnyM_done (by kernel_rfl) ?_ _
      (try clear hHeld)
      have S6 := Lib.hid (S5.out.row T)
      generalize w5.setRow w.heap.size (arrv 24 T) = W6 at *
      clear R2 S3 S4 S5 P5 HT
      have P6 := S6.out.sB
      have KC := Lib.hid (rkeep16_any c (H1 || uniH G) T W6 (S6.out.upd.cellc HC.out) ((S6.out.upd.frozen hcb).trans HF.out))
      go_wp2_with (first | (refine wpList_load_row rfl 23 _ rfl (w.heap.size) rfl 23 _ (0, 0) _ (P6) Tryz.underlying23 rfl (ist.trans (by rw [arrv_size])) ?_) | (go_at_call 20; (refine KC.out.mono ?_); rintro e w7 ⟨rfl, hu7⟩; have S7 := Lib.hid (S6.out.upd' hcb hu7); have R7 := S7.out.rB; clear hu7) | (refine wpList_store_row rfl 23 _ _ rfl (w.heap.size + 1 + 1) _ rfl rfl 23 _ (R7) (ist.trans (by rw [arrv_size])) (by rw [arrv_size, arrv_size]) (oneCell_arrv _ _) ?_))
      refine bodyPost_ret (results_cell_row Tryz.results27 _ _ (w.heap.size + 1 + 1) 23 (arrv 24 (keepF T)) (0, 0) _ rfl (setRow_heap _ _ _ _ _ _ R7) Tryz.underlying23 rfl (ist.trans (by rw [arrv_size]))) rfl ⟨by rw [E.out.1], ?_⟩
      rw [E.out.2]
      exact S7.out.upd.then' (below_row (Below.refl _ _) (by omega) _)
end Go.Proofs.YtiajjiphknlldaaGreat
