/- Contracts of the program's functions and plain laws, part 11: they hold for all arguments. -/
import Derived.Test.YtokcdlcmamdloaaQ10
/- The reference's prepared: the walk. -/
namespace Go.Proofs.Ytokcdlcmamdloaa
open Go.RowKit
set_option maxRecDepth 100000
set_option maxHeartbeats 16000000 in
theorem rprep_any (c : Addr) (h : Bool) (p H : Nat → Int) (r : Int) (w : World) (hc : w.cell? c = some (.bool h)) (hf : w.frozen? c = false) :
    Calls Try.prog 48 #[.pointer (some c), .agg (arrv 300 p), .agg (arrv 24 H), .int .i64 r] w fun e w' =>
      e = .returned (.tuple #[.agg (arrv 300 (condF p)), .agg (arrv 24 (bkF (condF p) (satS H 24))), .agg (arrv 24 (bkV (condF p) (satS H 24))), .agg (arrv 25 (bkA (condF p) (satS H 24) (varV r)))]) ∧ Upd c (h || lkH p H r) w w' := by
  have hcb := World.block_lt_of_cell? w c hc
  have S0 : PrA c h p H w ((((((w.alloc (.cells (arrv 300 p) 25)).alloc (.cells (arrv 24 H) 23)).alloc (.cells Try.zeroCells25 25)).alloc (.cells #[.int .i64 0, .int .i64 0, .int .i64 0, .int .i64 0, .int .i64 0, .int .i64 0, .int .i64 0, .int .i64 0, .int .i64 0, .int .i64 0, .int .i64 0, .int .i64 0, .int .i64 0, .int .i64 0, .int .i64 0, .int .i64 0, .int .i64 0, .int .i64 0, .int .i64 0, .int .i64 0, .int .i64 0, .int .i64 0, .int .i64 0, .int .i64 0] 23)).alloc (.cells #[.int .i64 0, .int .i64 0, .int .i64 0, .int .i64 0, .int .i64 0, .int .i64 0, .int .i64 0, .int .i64 0, .int .i64 0, .int .i64 0, .int .i64 0, .int .i64 0, .int .i64 0, .int .i64 0, .int .i64 0, .int .i64 0, .int .i64 0, .int .i64 0, .int .i64 0, .int .i64 0, .int .i64 0, .int .i64 0, .int .i64 0, .int .i64 0] 23)).alloc (.cells #[.int .i64 0, .int .i64 0, .int .i64 0, .int .i64 0, .int .i64 0, .int .i64 0, .int .i64 0, .int .i64 0, .int .i64 0, .int .i64 0, .int .i64 0, .int .i64 0, .int .i64 0, .int .i64 0, .int .i64 0, .int .i64 0, .int .i64 0, .int .i64 0, .int .i64 0, .int .i64 0, .int .i64 0, .int .i64 0, .int .i64 0, .int .i64 0, .int .i64 0] 78)) := by
    rw [zcov, zcol, z25]
    refine ⟨Upd.then (Upd.refl hc) (by (repeat (first | with_reducible exact Below.refl _ _ | with_reducible apply Below.drew | (with_reducible refine below_drewN ?_ _) | (with_reducible refine Below.alloc ?_ (by (try simp) <;> omega) _) | (with_reducible refine Below.setCell ?_ (by (try simp) <;> omega) _)))), ?_, ?_, ?_, ?_, ?_, ?_⟩
    · exact (((((Blk.new w _ _ _).alloc _).alloc _).alloc _).alloc _).alloc _
    · exact ((((Blk.new1 w _ _ _ _).alloc _).alloc _).alloc _).alloc _
    · exact (((blk_new2 w _ _ _ _ _).alloc _).alloc _).alloc _
    · exact ((blk_new3 w _ _ _ _ _ _).alloc _).alloc _
    · have := blk_new3 (w.alloc (.cells (arrv 300 p) 25)) (.cells (arrv 24 H) 23) (.cells (arrv 300 (fun _ => 0)) 25) (.cells (arrv 24 (fun _ => 0)) 23) 23 24 (fun _ => 0)
      rw [show (w.alloc (.cells (arrv 300 p) 25)).heap.size = w.heap.size + 1 by simp] at this
      exact this.alloc _
    · have := blk_new3 ((w.alloc (.cells (arrv 300 p) 25)).alloc (.cells (arrv 24 H) 23)) (.cells (arrv 300 (fun _ => 0)) 25) (.cells (arrv 24 (fun _ => 0)) 23) (.cells (arrv 24 (fun _ => 0)) 23) 78 25 (fun _ => 0)
      rw [show ((w.alloc (.cells (arrv 300 p) 25)).alloc (.cells (arrv 24 H) 23)).heap.size = w.heap.size + 1 + 1 by simp] at this
      exact this
  have HC := Lib.hid hc
  have HF := Lib.hid hf
  go_enter Try.func48, Try.ntmps48
  go_upto_region 1 with fail
  generalize (((((w.alloc (.cells (arrv 300 p) 25)).alloc (.cells (arrv 24 H) 23)).alloc (.cells Try.zeroCells25 25)).alloc (.cells #[.int .i64 0, .int .i64 0, .int .i64 0, .int .i64 0, .int .i64 0, .int .i64 0, .int .i64 0, .int .i64 0, .int .i64 0, .int .i64 0, .int .i64 0, .int .i64 0, .int .i64 0, .int .i64 0, .int .i64 0, .int .i64 0, .int .i64 0, .int .i64 0, .int .i64 0, .int .i64 0, .int .i64 0, .int .i64 0, .int .i64 0, .int .i64 0] 23)).alloc (.cells #[.int .i64 0, .int .i64 0, .int .i64 0, .int .i64 0, .int .i64 0, .int .i64 0, .int .i64 0, .int .i64 0, .int .i64 0, .int .i64 0, .int .i64 0, .int .i64 0, .int .i64 0, .int .i64 0, .int .i64 0, .int .i64 0, .int .i64 0, .int .i64 0, .int .i64 0, .int .i64 0, .int .i64 0, .int .i64 0, .int .i64 0, .int .i64 0] 23)).alloc (.cells #[.int .i64 0, .int .i64 0, .int .i64 0, .int .i64 0, .int .i64 0, .int .i64 0, .int .i64 0, .int .i64 0, .int .i64 0, .int .i64 0, .int .i64 0, .int .i64 0, .int .i64 0, .int .i64 0, .int .i64 0, .int .i64 0, .int .i64 0, .int .i64 0, .int .i64 0, .int .i64 0, .int .i64 0, .int .i64 0, .int .i64 0, .int .i64 0, .int .i64 0] 78) = W0 at *
  have c0 := S0.upd.cellc hc
  have f0 := (S0.upd.frozen hcb).trans hf
  have P0 := S0.pB
  have HS0 := Lib.hid S0
  clear S0 hc hf
  go_upto_region 2 with (first | (refine wpList_load_row rfl 25 _ rfl (w.heap.size) rfl 25 _ (0, 0) _ (P0) Try.underlying25 rfl (icov.trans (by rw [arrv_size])) ?_) | (go_at_call 36; (refine (rcond_any c h p _ c0 f0).mono ?_); rintro e w1 ⟨rfl, hu1⟩; have P1 := P0.upd hu1 (by omega)) | (refine wpList_store_row rfl 25 _ _ rfl (w.heap.size) _ rfl rfl 25 _ (P1) (icov.trans (by rw [arrv_size])) (by rw [arrv_size, arrv_size]) (oneCell_arrv _ _) ?_))
  have S1 : Hid (PrA c (h || condH p) (condF p) H w (w1.setRow w.heap.size (arrv 300 (condF p)))) := by
    have S := HS0.out.upd' hcb hu1
    exact Lib.hid ⟨S.upd.then' (below_row (Below.refl _ _) (Nat.le_refl _) _), P1.setRow _, S.hB.setRow_other _ (by omega), S.z0.setRow_other _ (by omega), S.z1.setRow_other _ (by omega), S.z2.setRow_other _ (by omega), S.z3.setRow_other _ (by omega)⟩
  generalize w1.setRow w.heap.size (arrv 300 (condF p)) = W1 at *
  clear P0 P1 hu1 HS0 c0 f0
  obtain ⟨P, hP⟩ : ∃ P, condF p = P := ⟨_, rfl⟩
  obtain ⟨H1, hH1⟩ : ∃ H1, (h || condH p) = H1 := ⟨_, rfl⟩
  rw [hP, hH1] at S1
  have EP := Lib.hid hP
  have EH1 := Lib.hid hH1
  clear hP hH1
  go_wp2_with fail
  go_loopw [12] (fun i wr => ∃ k : Nat, k ≤ 24 ∧ i = .int .i64 k ∧ Hid (PrA c (H1 || orB (fun k => satH (H k)) k) P (satS H k) w wr)) (fun i _ => 24 - (intOf i).toNat)
  case atStart =>
    refine ⟨0, by omega, rfl, ?_⟩
    rw [show (H1 || orB (fun k => satH (H k)) 0) = H1 from by simp [orB]]
    exact Lib.hid (S1.out.congH fun i hi => by simp [satS])
  case round =>
    obtain ⟨k, hk, rfl, R⟩ := hrel
    clear S1
    by_cases hlt : k < 24
    · have d1 : decide ((k : Int) < 24) = true := by simp; omega
      have k0 : (0 : Int) ≤ (k : Int) := Int.natCast_nonneg _
      have k1 : (k : Int) < 24 := by omega
      have rc := R.out.upd.cellc HC.out
      have rf := (R.out.upd.frozen hcb).trans HF.out
      have b0 := R.out.hB.cell (i := k) (by omega)
      have b1 := R.out.hB.free k
      have n0 := ne_of_cells rc b0
      have hv : satS H k k = H k := by simp [satS]
      rw [hv] at b0
      clear hv
      have CC := Lib.hid (rsat_any c _ (H k) wr.drew rc rf)
      go_upto_region 5 with fail
      refine wp_region_M (fun w' => w'.cell? ⟨w.heap.size + 1, k, none⟩ = some (.int .i64 (H k))) 9 (by kernel_rfl) ?_ (fun hHeld => ?_)
      · exact b0
      refine wpAnyM_take 0 (v := ?_) rfl (by kernel_rfl) (fun _ _ _ h => h) (Or.inl ⟨by rfl, ?_⟩) (by assumption) ?_
      rotate_left
      · (intro wx hSw; (try dsimp only at hSw); go_simp; (try with_reducible rfl))
      (try simp only [Act.put, List.setIfInBounds_toArray, List.set_cons_zero, List.set_cons_succ])
      refine wpAnyM_take 1 (v := ?_) rfl (by kernel_rfl) (fun _ _ _ h => h) (Or.inl ⟨by rfl, ?_⟩) (by assumption) ?_
      rotate_left
      · (intro wx hSw; (try dsimp only at hSw); go_simp; (try with_reducible rfl))
      (try simp only [Act.put, List.setIfInBounds_toArray, List.set_cons_zero, List.set_cons_succ])
      refine wpAnyM_take 2 (v := ?_) rfl (by kernel_rfl) (fun _ _ _ h => h) (Or.inl ⟨by rfl, ?_⟩) (by assumption) ?_
      rotate_left
      · (intro wx hSw; (try dsimp only at hSw); go_simp; (try with_reducible rfl))
      (try simp only [Act.put, List.setIfInBounds_toArray, List.set_cons_zero, List.set_cons_succ])
      refine wpAnyM_take 3 (v := ?_) rfl (by kernel_rfl) (fun _ _ _ h => h) (Or.inl ⟨by rfl, ?_⟩) (by assumption) ?_
      rotate_left
      · (intro wx hSw; (try dsimp only at hSw); go_simp; (try with_reducible rfl))
      (try simp only [Act.put, List.setIfInBounds_toArray, List.set_cons_zero, List.set_cons_succ])
      refine wpAnyM_take 4 (v := ?_) rfl (by kernel_rfl) (fun _ _ _ h => h) (Or.inl ⟨by rfl, ?_⟩) (by assumption) ?_
      rotate_left
      · (intro wx hSw; (try dsimp only at hSw); go_simp; (try with_reducible rfl))
      (try simp only [Act.put, List.setIfInBounds_toArray, List.set_cons_zero, List.set_cons_succ])
      refine wpAnyM_take 5 (v := ?_) rfl (by kernel_rfl) (fun _ _ _ h => h) (Or.inl ⟨by rfl, ?_⟩) (by assumption) ?_
      rotate_left
      · (intro wx hSw; (try dsimp only at hSw); go_simp; (try with_reducible rfl))
      (try simp only [Act.put, List.setIfInBounds_toArray, List.set_cons_zero, List.set_cons_succ])
      refine wpAnyM_take 6 (v := ?_) rfl (by kernel_rfl) (fun _ _ _ h => h) (Or.inl ⟨by rfl, ?_⟩) (by assumption) ?_
      rotate_left
      · (intro wx hSw; (try dsimp only at hSw); go_simp; (try with_reducible rfl))
      (try simp only [Act.put, List.setIfInBounds_toArray, List.set_cons_zero, List.set_cons_succ])
      refine wpAnyM_oneS 7 rfl (by kernel_rfl) (fun K hK => ?_)
      go_simp
      (refine CC.out.mono ?_); rintro e w' ⟨rfl, rfl⟩
      (try dsimp only)
      (try simp only [Act.put, List.setIfInBounds_toArray, List.set_cons_zero, List.set_cons_succ])
      clear hHeld
      refine hK.out _ _ ?_ (fun hHeld => ?_)
      · simp [go_sem, *]
      clear hK K
      (try simp only [Act.put, List.setIfInBounds_toArray, List.set_cons_zero, List.set_cons_succ])
      refine wpAnyM_take 8 (v := ?_) rfl (by kernel_rfl) (fun _ _ _ h => h) (Or.inl ⟨by rfl, ?_⟩) (by assumption) ?_
      rotate_left
      · (intro wx hSw; (try dsimp only at hSw); go_simp; (try with_reducible rfl))
      (try simp only [Act.put, List.setIfInBounds_toArray, List.set_cons_zero, List.set_cons_succ])
      refine wpAnyM_one 9 rfl (by kernel_rfl) (fun K hK => ?_)
      go_simp
      refine hK.out _ _ (.inl (by kernel_rfl)) (fun _ => ?_)
      clear hK K
      (try simp only [Act.put, List.setIfInBounds_toArray, List.set_cons_zero, List.set_cons_succ])
      refine wpAnyM_done (by kernel_rfl) ?_ _
      have A1 : Upd c (H1 || orB (fun k => satH (H k)) k || satH (H k)) wr (wr.drew.setCell c (.bool (H1 || orB (fun k => satH (H k)) k || satH (H k)))) := Upd.after (Below.drew (Below.refl _ _)) (Upd.set c _ wr.drew)
      have S2 := R.out.upd' hcb A1
      go_wp2_with fail
      go_roundw
      case rel =>
        refine ⟨k + 1, by omega, by go_num, ?_⟩
        rw [show (H1 || orB (fun k => satH (H k)) (k + 1)) = (H1 || orB (fun k => satH (H k)) k || satH (H k)) from by simp [orB, Bool.or_assoc]]
        refine Lib.hid ((S2.setH k (satV (H k))).congH fun i hi => ?_)
        simp only [Go.Proofs.Ytokcdlcmamdloaa.upd, satS]
        by_cases h1 : i = k
        · subst h1; rw [if_pos rfl, if_pos (by omega)]
        · rw [if_neg h1]; split <;> split <;> first | rfl | omega
      case measure => simp [intOf]; omega
    · have hk24 : k = 24 := by omega
      subst hk24
      rw [show ((24 : Nat) : Int) = 24 from rfl]
      obtain ⟨H2, hH2⟩ : ∃ H2, (H1 || orB (fun k => satH (H k)) 24) = H2 := ⟨_, rfl⟩
      obtain ⟨S, hS⟩ : ∃ S, satS H 24 = S := ⟨_, rfl⟩
      rw [hH2, hS] at R
      have EH2 := Lib.hid hH2
      have ES := Lib.hid hS
      have hsz : w.heap.size + 5 < wr.heap.size := R.out.z3.lt
      clear hH2 hS hk hlt
      go_upto_region 9 with fail
      have S3 : PrB c H2 P S wr.heap.size (wr.heap.size + 1) (wr.heap.size + 1 + 1) (fun _ => 0) (fun _ => 0) (fun _ => 0) w (((wr.alloc (.cells #[.int .i64 0, .int .i64 0, .int .i64 0, .int .i64 0, .int .i64 0, .int .i64 0, .int .i64 0, .int .i64 0, .int .i64 0, .int .i64 0, .int .i64 0, .int .i64 0, .int .i64 0, .int .i64 0, .int .i64 0, .int .i64 0, .int .i64 0, .int .i64 0, .int .i64 0, .int .i64 0, .int .i64 0, .int .i64 0, .int .i64 0, .int .i64 0] 23)).alloc (.cells #[.int .i64 0, .int .i64 0, .int .i64 0, .int .i64 0, .int .i64 0, .int .i64 0, .int .i64 0, .int .i64 0, .int .i64 0, .int .i64 0, .int .i64 0, .int .i64 0, .int .i64 0, .int .i64 0, .int .i64 0, .int .i64 0, .int .i64 0, .int .i64 0, .int .i64 0, .int .i64 0, .int .i64 0, .int .i64 0, .int .i64 0, .int .i64 0] 23)).alloc (.cells #[.int .i64 0, .int .i64 0, .int .i64 0, .int .i64 0, .int .i64 0, .int .i64 0, .int .i64 0, .int .i64 0, .int .i64 0, .int .i64 0, .int .i64 0, .int .i64 0, .int .i64 0, .int .i64 0, .int .i64 0, .int .i64 0, .int .i64 0, .int .i64 0, .int .i64 0, .int .i64 0, .int .i64 0, .int .i64 0, .int .i64 0, .int .i64 0, .int .i64 0] 78)) := by
        rw [zcol, z25]
        exact ⟨R.out.below (by (repeat (first | with_reducible exact Below.refl _ _ | with_reducible apply Below.drew | (with_reducible refine below_drewN ?_ _) | (with_reducible refine Below.alloc ?_ (by (try simp) <;> omega) _) | (with_reducible refine Below.setCell ?_ (by (try simp) <;> omega) _)))), ((Blk.new wr _ _ _).alloc _).alloc _, (Blk.new1 wr _ _ _ _).alloc _, blk_new2 wr _ _ _ _ _, by omega⟩
      generalize ((wr.alloc (.cells #[.int .i64 0, .int .i64 0, .int .i64 0, .int .i64 0, .int .i64 0, .int .i64 0, .int .i64 0, .int .i64 0, .int .i64 0, .int .i64 0, .int .i64 0, .int .i64 0, .int .i64 0, .int .i64 0, .int .i64 0, .int .i64 0, .int .i64 0, .int .i64 0, .int .i64 0, .int .i64 0, .int .i64 0, .int .i64 0, .int .i64 0, .int .i64 0] 23)).alloc (.cells #[.int .i64 0, .int .i64 0, .int .i64 0, .int .i64 0, .int .i64 0, .int .i64 0, .int .i64 0, .int .i64 0, .int .i64 0, .int .i64 0, .int .i64 0, .int .i64 0, .int .i64 0, .int .i64 0, .int .i64 0, .int .i64 0, .int .i64 0, .int .i64 0, .int .i64 0, .int .i64 0, .int .i64 0, .int .i64 0, .int .i64 0, .int .i64 0] 23)).alloc (.cells #[.int .i64 0, .int .i64 0, .int .i64 0, .int .i64 0, .int .i64 0, .int .i64 0, .int .i64 0, .int .i64 0, .int .i64 0, .int .i64 0, .int .i64 0, .int .i64 0, .int .i64 0, .int .i64 0, .int .i64 0, .int .i64 0, .int .i64 0, .int .i64 0, .int .i64 0, .int .i64 0, .int .i64 0, .int .i64 0, .int .i64 0, .int .i64 0, .int .i64 0] 78) = W3 at *
      obtain ⟨fb, hfb⟩ : ∃ x, wr.heap.size = x := ⟨_, rfl⟩
      obtain ⟨vb, hvb⟩ : ∃ x, wr.heap.size + 1 = x := ⟨_, rfl⟩
      obtain ⟨ab, hab⟩ : ∃ x, wr.heap.size + 1 + 1 = x := ⟨_, rfl⟩
      rw [hab, hvb, hfb] at S3
      rw [hab, hvb, hfb]
      clear R hab hvb hfb hsz
      have rc := S3.a.upd.cellc HC.out
      have rf := (S3.a.upd.frozen hcb).trans HF.out
      have b0 := S3.aB.cell (i := 0) (by omega)
      have b1 := S3.aB.free 0
      have n0 := ne_of_cells rc b0
      have CC := Lib.hid (rclamp_any c _ r 1 72057594037927936 W3 rc rf)
      have HS3 := Lib.hid S3
      clear S3
      go_upto_region 10 with (go_at_call 37; (refine CC.out.mono ?_); rintro e w' ⟨rfl, rfl⟩)
      obtain ⟨R, hR⟩ : ∃ R, varV r = R := ⟨_, rfl⟩
      have ER := Lib.hid hR
      have S4 : Hid (PrB c (H2 || varH r) P S fb vb ab (fS' P S 0) (vS' P S 0) (aS' P S R 0) w ((W3.setCell c (.bool (H2 || clampH r 1 72057594037927936))).setCell ⟨ab, 0, none⟩ (.int .i64 (clampV r 1 72057594037927936)))) := by
        refine Lib.hid (((HS3.out.upd' hcb (Upd.set c (H2 || varH r) W3)).setA 0 (varV r)).cong (fun i hi => by simp [fS']) (fun i hi => by simp [vS']) (fun i hi => ?_))
        simp only [Go.Proofs.Ytokcdlcmamdloaa.upd, aS']
        by_cases h1 : i = 0
        · subst h1; rw [if_pos rfl, if_pos (by omega), hR]; rfl
        · rw [if_neg h1, if_neg (by omega)]
      generalize (W3.setCell c (.bool (H2 || clampH r 1 72057594037927936))).setCell ⟨ab, 0, none⟩ (.int .i64 (clampV r 1 72057594037927936)) = W4 at *
      obtain ⟨H3, hH3⟩ : ∃ H3, (H2 || varH r) = H3 := ⟨_, rfl⟩
      rw [hH3] at S4
      have EH3 := Lib.hid hH3
      clear hH3 hR HS3 b0 b1 n0 rc rf CC
      go_wp2_with fail
      go_loopw [16] (fun i wr => ∃ j : Nat, j ≤ 24 ∧ i = .int .i64 j ∧ Hid (PrB c (H3 || orB (bkS P S R) j) P S fb vb ab (fS' P S j) (vS' P S j) (aS' P S R j) w wr)) (fun i _ => 24 - (intOf i).toNat)
      case atStart =>
        refine ⟨0, by omega, rfl, ?_⟩
        rw [show (H3 || orB (bkS P S R) 0) = H3 from by simp [orB]]
        exact S4
      case round =>
        obtain ⟨j, hj, rfl, Q⟩ := hrel
        clear S4
        by_cases hlt : j < 24
        · have d1 : decide ((j : Int) < 24) = true := by simp; omega
          have k0 : (0 : Int) ≤ (j : Int) := Int.natCast_nonneg _
          have k1 : (j : Int) < 24 := by omega
          have Y0 : Blk (wr.alloc (.cells #[.int .i64 0, .int .i64 0, .int .i64 0, .int .i64 0, .int .i64 0, .int .i64 0, .int .i64 0, .int .i64 0, .int .i64 0, .int .i64 0, .int .i64 0, .int .i64 0, .int .i64 0, .int .i64 0, .int .i64 0, .int .i64 0, .int .i64 0, .int .i64 0, .int .i64 0, .int .i64 0, .int .i64 0, .int .i64 0, .int .i64 0, .int .i64 0] 23)) wr.heap.size 23 24 (fun _ => 0) := by rw [zcol]; exact Blk.new wr _ _ _
          go_upto_region 13 with fail
          refine wp_region_lit ?_
          refine wpList_val (v := ?_) rfl ?_ ?_
          rotate_left
          · (go_simp; rw [zcol])
          (try simp only [Act.put, List.setIfInBounds_toArray, List.set_cons_zero, List.set_cons_succ])
          refine wpList_act (v := ?_) (w' := ?_) rfl ?_ ?_
          rotate_left 2
          · (go_simp; (try (first | with_reducible rfl | (constructor <;> with_reducible rfl))))
          (try simp only [Act.put, List.setIfInBounds_toArray, List.set_cons_zero, List.set_cons_succ])
          refine wpList_done (w' := ?_) rfl ?_ ?_
          rotate_left
          · refine Eq.trans (run_store_row 23 (.tmp 17) (.tmp 45) (by rfl) (wr.heap.size) (by rfl) (by rfl) (Y0) (icol.trans rfl)) ?_; with_reducible rfl
          (try simp only [Act.put, List.setIfInBounds_toArray, List.set_cons_zero, List.set_cons_succ])
          refine wpList_nil ?_
          have hcbk : ab < wr.heap.size := Q.out.aB.lt
          obtain ⟨HJ, hHJ⟩ : ∃ x, (H3 || orB (bkS P S R) j) = x := ⟨_, rfl⟩
          rw [hHJ] at Q
          have EHJ := Lib.hid hHJ
          have S5 : Hid (PrB c HJ P S fb vb ab (fS' P S j) (vS' P S j) (aS' P S R j) w ((wr.alloc (.cells #[.int .i64 0, .int .i64 0, .int .i64 0, .int .i64 0, .int .i64 0, .int .i64 0, .int .i64 0, .int .i64 0, .int .i64 0, .int .i64 0, .int .i64 0, .int .i64 0, .int .i64 0, .int .i64 0, .int .i64 0, .int .i64 0, .int .i64 0, .int .i64 0, .int .i64 0, .int .i64 0, .int .i64 0, .int .i64 0, .int .i64 0, .int .i64 0] 23)).setRow wr.heap.size (arrv 24 (fun _ => 0)))) := Lib.hid (Q.out.below (below_row ((Below.refl _ _).alloc (Nat.le_refl _) _) (Nat.le_refl _) _))
          have Y5 : Hid (Blk ((wr.alloc (.cells #[.int .i64 0, .int .i64 0, .int .i64 0, .int .i64 0, .int .i64 0, .int .i64 0, .int .i64 0, .int .i64 0, .int .i64 0, .int .i64 0, .int .i64 0, .int .i64 0, .int .i64 0, .int .i64 0, .int .i64 0, .int .i64 0, .int .i64 0, .int .i64 0, .int .i64 0, .int .i64 0, .int .i64 0, .int .i64 0, .int .i64 0, .int .i64 0] 23)).setRow wr.heap.size (arrv 24 (fun _ => 0))) wr.heap.size 23 24 (fun _ => 0)) := Lib.hid (Y0.setRow _)
          clear Y0 Q hHJ
          generalize (wr.alloc (.cells #[.int .i64 0, .int .i64 0, .int .i64 0, .int .i64 0, .int .i64 0, .int .i64 0, .int .i64 0, .int .i64 0, .int .i64 0, .int .i64 0, .int .i64 0, .int .i64 0, .int .i64 0, .int .i64 0, .int .i64 0, .int .i64 0, .int .i64 0, .int .i64 0, .int .i64 0, .int .i64 0, .int .i64 0, .int .i64 0, .int .i64 0, .int .i64 0] 23)).setRow wr.heap.size (arrv 24 (fun _ => 0)) = W5 at *
          generalize wr.heap.size = yb at *
          go_wp2_with fail
          go_loopw [18] (fun v wr => ∃ m : Nat, m ≤ j + 1 ∧ v = .int .i64 m ∧ Hid (PrB c HJ P S fb vb ab (fS' P S j) (vS' P S j) (aS' P S R j) w wr ∧ Blk wr yb 23 24 (fun x => if x < m then uV P x j else 0))) (fun v _ => j + 1 - (intOf v).toNat)
          case atStart => exact ⟨0, by omega, rfl, Lib.hid ⟨S5.out, Y5.out.congr fun x hx => by simp⟩⟩
          case round =>
            obtain ⟨m, hm, rfl, Q⟩ := hrel
            clear S5 Y5
            by_cases hmk : m < j + 1
            · have d2 : decide (m ≤ j) = true := by simp; omega
              have m0 : (0 : Int) ≤ (m : Int) := Int.natCast_nonneg _
              have m1 : (m : Int) < 24 := by omega
              have UC := Lib.hid (rU_any P w.heap.size m j wr (by omega) (by omega) Q.out.1.a.pB)
              have l1 := Q.out.2.lt
              go_upto_region 17 with fail
              go_upto_region 16 with (go_at_call 38; (refine UC.out.mono ?_); rintro e w3 ⟨rfl, hb3⟩; have HB3 := Lib.hid hb3; have Y3 := Lib.hid (Q.out.2.below hb3); have g1 := Y3.out.cell (i := m) (by omega); have g0 := Y3.out.free m; clear hb3)
              have S6 := Q.out.1.below HB3.out
              have Y6 := Y3.out
              clear Q Y3 g0 g1
              go_wp2_with fail
              go_roundw
              case rel =>
                refine ⟨m + 1, by omega, by go_num, Lib.hid ⟨S6.other (by omega) _, (Y6.set m (uV P m j)).congr fun x hx => ?_⟩⟩
                simp only [Go.Proofs.Ytokcdlcmamdloaa.upd]
                by_cases h1 : x = m
                · subst h1; rw [if_pos rfl, if_pos (by omega)]
                · rw [if_neg h1]; split <;> split <;> first | rfl | omega
              case measure => simp [intOf]; omega
            · have hmk' : m = j + 1 := by omega
              subst hmk'
              have d2 : decide (j + 1 ≤ j) = false := by simp
              have Y7 : Hid (Blk wr yb 23 24 (colF P j)) := Lib.hid (Q.out.2.congr fun x hx => by unfold colF; split <;> split <;> first | rfl | omega)
              have S7 := Lib.hid Q.out.1
              clear Q hm hmk
              have iw : IntKind.i64.wrap ((j : Int) + 1) = (j : Int) + 1 := IntWalk.i64_in _ (by omega)
              have rc := S7.out.a.upd.cellc HC.out
              have rf := (S7.out.a.upd.frozen hcb).trans HF.out
              have ga : ∀ x, x < j + 1 → wr.drew.cell? ⟨w.heap.size + 1, 0 + x, none⟩ = some (.int .i64 (S x)) := fun x hx => by rw [Nat.zero_add]; exact S7.out.a.hB.cell (i := x) (by omega)
              have gb : ∀ x, x < j + 1 → wr.drew.cell? ⟨yb, 0 + x, none⟩ = some (.int .i64 (colF P j x)) := fun x hx => by rw [Nat.zero_add]; exact Y7.out.cell (i := x) (by omega)
              have DC := Lib.hid (rdot_any c HJ S (colF P j) (w.heap.size + 1) 0 24 yb 0 24 (j + 1) wr.drew rc rf (by omega) ga gb)
              clear ga gb rc rf
              obtain ⟨FV, hFV⟩ : ∃ x, dotV 30 S (colF P j) (j + 1) = x := ⟨_, rfl⟩
              obtain ⟨FH, hFH⟩ : ∃ x, dotH 30 S (colF P j) (j + 1) = x := ⟨_, rfl⟩
              rw [hFV, hFH] at DC
              have EFV := Lib.hid hFV
              have EFH := Lib.hid hFH
              clear hFV hFH
              go_upto_region 18 with fail
              refine wp_region_M (fun _ => True) 12 (by kernel_rfl) ?_ (fun hHeld => ?_)
              · trivial
              refine wpAnyM_take 0 (v := ?_) rfl (by kernel_rfl) (fun _ _ _ h => h) (Or.inl ⟨by rfl, ?_⟩) (by assumption) ?_
              rotate_left
              · (intro wx hSw; (try dsimp only at hSw); go_simp; (try with_reducible rfl))
              (try simp only [Act.put, List.setIfInBounds_toArray, List.set_cons_zero, List.set_cons_succ])
              refine wpAnyM_take 1 (v := ?_) rfl (by kernel_rfl) (fun _ _ _ h => h) (Or.inl ⟨by rfl, ?_⟩) (by assumption) ?_
              rotate_left
              · (intro wx hSw; (try dsimp only at hSw); go_simp; (try with_reducible rfl))
              (try simp only [Act.put, List.setIfInBounds_toArray, List.set_cons_zero, List.set_cons_succ])
              refine wpAnyM_take 2 (v := ?_) rfl (by kernel_rfl) (fun _ _ _ h => h) (Or.inl ⟨by rfl, ?_⟩) (by assumption) ?_
              rotate_left
              · (intro wx hSw; (try dsimp only at hSw); go_simp; (try with_reducible rfl))
              (try simp only [Act.put, List.setIfInBounds_toArray, List.set_cons_zero, List.set_cons_succ])
              refine wpAnyM_take 3 (v := ?_) rfl (by kernel_rfl) (fun _ _ _ h => h) (Or.inl ⟨by rfl, ?_⟩) (by assumption) ?_
              rotate_left
              · (intro wx hSw; (try dsimp only at hSw); go_simp; (try with_reducible rfl))
              (try simp only [Act.put, List.setIfInBounds_toArray, List.set_cons_zero, List.set_cons_succ])
              refine wpAnyM_take 4 (v := ?_) rfl (by kernel_rfl) (fun _ _ _ h => h) (Or.inl ⟨by rfl, ?_⟩) (by assumption) ?_
              rotate_left
              · (intro wx hSw; (try dsimp only at hSw); go_simp; (try with_reducible rfl))
              (try simp only [Act.put, List.setIfInBounds_toArray, List.set_cons_zero, List.set_cons_succ])
              refine wpAnyM_take 5 (v := ?_) rfl (by kernel_rfl) (fun _ _ _ h => h) (Or.inl ⟨by rfl, ?_⟩) (by assumption) ?_
              rotate_left
              · (intro wx hSw; (try dsimp only at hSw); go_simp; (try with_reducible rfl))
              (try simp only [Act.put, List.setIfInBounds_toArray, List.set_cons_zero, List.set_cons_succ])
              refine wpAnyM_take 6 (v := ?_) rfl (by kernel_rfl) (fun _ _ _ h => h) (Or.inl ⟨by rfl, ?_⟩) (by assumption) ?_
              rotate_left
              · (intro wx hSw; refine Eq.trans (run_slice_col (.tmp 6) (.tmp 61) (by rfl) (w.heap.size + 1) (by rfl) _ (by rfl) (j + 1) (by first | (simp; done) | (rw [IntWalk.i64_in _ (by omega)]; simp)) (by omega)) ?_; with_reducible rfl)
              (try simp only [Act.put, List.setIfInBounds_toArray, List.set_cons_zero, List.set_cons_succ])
              refine wpAnyM_take 7 (v := ?_) rfl (by kernel_rfl) (fun _ _ _ h => h) (Or.inl ⟨by rfl, ?_⟩) (by assumption) ?_
              rotate_left
              · (intro wx hSw; (try dsimp only at hSw); go_simp; (try with_reducible rfl))
              (try simp only [Act.put, List.setIfInBounds_toArray, List.set_cons_zero, List.set_cons_succ])
              refine wpAnyM_take 8 (v := ?_) rfl (by kernel_rfl) (fun _ _ _ h => h) (Or.inl ⟨by rfl, ?_⟩) (by assumption) ?_
              rotate_left
              · (intro wx hSw; (try dsimp only at hSw); go_simp; (try with_reducible rfl))
              (try simp only [Act.put, List.setIfInBounds_toArray, List.set_cons_zero, List.set_cons_succ])
              refine wpAnyM_take 9 (v := ?_) rfl (by kernel_rfl) (fun _ _ _ h => h) (Or.inl ⟨by rfl, ?_⟩) (by assumption) ?_
              rotate_left
              · (intro wx hSw; refine Eq.trans (run_slice_col (.tmp 17) (.tmp 64) (by rfl) yb (by rfl) _ (by rfl) (j + 1) (by first | (simp; done) | (rw [IntWalk.i64_in _ (by omega)]; simp)) (by omega)) ?_; with_reducible rfl)
              (try simp only [Act.put, List.setIfInBounds_toArray, List.set_cons_zero, List.set_cons_succ])
              refine wpAnyM_oneS 10 rfl (by kernel_rfl) (fun K hK => ?_)
              go_simp
              (refine DC.out.mono ?_); rintro e w5 ⟨rfl, hu5⟩; have L5 := Lib.hid (S7.out.upd' hcb (Upd.after (Below.drew (Below.refl _ _)) hu5)); have n0 := L5.out.fB.cell (i := j) (by omega); have n1 := L5.out.fB.free j; clear hu5
              (try dsimp only)
              (try simp only [Act.put, List.setIfInBounds_toArray, List.set_cons_zero, List.set_cons_succ])
              clear hHeld
              refine hK.out _ _ ?_ (fun hHeld => ?_)
              · trivial
              clear hK K
              (try simp only [Act.put, List.setIfInBounds_toArray, List.set_cons_zero, List.set_cons_succ])
              refine wpAnyM_take 11 (v := ?_) rfl (by kernel_rfl) (fun _ _ _ h => h) (Or.inl ⟨by rfl, ?_⟩) (by assumption) ?_
              rotate_left
              · (intro wx hSw; (try dsimp only at hSw); go_simp; (try with_reducible rfl))
              (try simp only [Act.put, List.setIfInBounds_toArray, List.set_cons_zero, List.set_cons_succ])
              refine wpAnyM_one 12 rfl (by kernel_rfl) (fun K hK => ?_)
              go_simp
              refine hK.out _ _ (.inl (by kernel_rfl)) (fun _ => ?_)
              clear hK K
              (try simp only [Act.put, List.setIfInBounds_toArray, List.set_cons_zero, List.set_cons_succ])
              refine wpAnyM_done (by kernel_rfl) ?_ _
              have eF : fS' P S (j + 1) j = FV := by unfold fS'; rw [if_pos (by omega)]; exact EFV.out
              have L6 : PrB c (HJ || FH) P S fb vb ab (fS' P S (j + 1)) (vS' P S j) (aS' P S R j) w (w5.setCell ⟨fb, j, none⟩ (.int .i64 FV)) := (L5.out.setF j FV).cong (fun x hx => by
                simp only [Go.Proofs.Ytokcdlcmamdloaa.upd]
                by_cases h1 : x = j
                · subst h1; rw [if_pos rfl, eF]
                · rw [if_neg h1]; unfold fS'; split <;> split <;> first | rfl | omega) (fun _ _ => rfl) (fun _ _ => rfl)
              generalize w5.setCell ⟨fb, j, none⟩ (.int .i64 FV) = W6 at *
              have m0 := L6.a.pB.cell (i := 276 + j) (by omega)
              have m1 := L6.fB.cell (i := j) (by omega)
              rw [eF] at m1
              have rc := L6.a.upd.cellc HC.out
              have rf := (L6.a.upd.frozen hcb).trans HF.out
              have MC := Lib.hid (rm_any c _ (P (276 + j)) FV W6.drew rc rf)
              obtain ⟨VV, hVV⟩ : ∃ x, mulV (P (276 + j)) FV 30 = x := ⟨_, rfl⟩
              obtain ⟨VH, hVH⟩ : ∃ x, mulH (P (276 + j)) FV 30 = x := ⟨_, rfl⟩
              rw [hVV, hVH] at MC
              have EVV := Lib.hid hVV
              have EVH := Lib.hid hVH
              have HL6 := Lib.hid L6
              have EF := Lib.hid eF
              clear n0 n1 L5 DC L6 rc rf hVV hVH S7 Y7 eF
              go_upto_region 19 with fail
              refine wp_region_M (fun w' => w'.cell? ⟨w.heap.size, 276 + j, none⟩ = some (.int .i64 (P (276 + j))) ∧ w'.cell? ⟨fb, j, none⟩ = some (.int .i64 FV)) 13 (by kernel_rfl) ?_ (fun hHeld => ?_)
              · exact ⟨m0, m1⟩
              refine wpAnyM_take 0 (v := ?_) rfl (by kernel_rfl) (fun _ _ _ h => h) (Or.inl ⟨by rfl, ?_⟩) (by assumption) ?_
              rotate_left
              · (intro wx hSw; (try dsimp only at hSw); go_simp; (try with_reducible rfl))
              (try simp only [Act.put, List.setIfInBounds_toArray, List.set_cons_zero, List.set_cons_succ])
              refine wpAnyM_take 1 (v := ?_) rfl (by kernel_rfl) (fun _ _ _ h => h) (Or.inl ⟨by rfl, ?_⟩) (by assumption) ?_
              rotate_left
              · (intro wx hSw; (try dsimp only at hSw); go_simp; (try with_reducible rfl))
              (try simp only [Act.put, List.setIfInBounds_toArray, List.set_cons_zero, List.set_cons_succ])
              refine wpAnyM_take 2 (v := ?_) rfl (by kernel_rfl) (fun _ _ _ h => h) (Or.inl ⟨by rfl, ?_⟩) (by assumption) ?_
              rotate_left
              · (intro wx hSw; (try dsimp only at hSw); go_simp; (try with_reducible rfl))
              (try simp only [Act.put, List.setIfInBounds_toArray, List.set_cons_zero, List.set_cons_succ])
              refine wpAnyM_take 3 (v := ?_) rfl (by kernel_rfl) (fun _ _ _ h => h) (Or.inl ⟨by rfl, ?_⟩) (by assumption) ?_
              rotate_left
              · (intro wx hSw; (try dsimp only at hSw); go_simp; (try with_reducible rfl))
              (try simp only [Act.put, List.setIfInBounds_toArray, List.set_cons_zero, List.set_cons_succ])
              refine wpAnyM_take 4 (v := ?_) rfl (by kernel_rfl) (fun _ _ _ h => h) (Or.inl ⟨by rfl, ?_⟩) (by assumption) ?_
              rotate_left
              · (intro wx hSw; (try dsimp only at hSw); go_simp; (try with_reducible rfl))
              (try simp only [Act.put, List.setIfInBounds_toArray, List.set_cons_zero, List.set_cons_succ])
              refine wpAnyM_take 5 (v := ?_) rfl (by kernel_rfl) (fun _ _ _ h => h) (Or.inl ⟨by rfl, ?_⟩) (by assumption) ?_
              rotate_left
              · (intro wx hSw; (try dsimp only at hSw); go_simp; (try with_reducible rfl))
              (try simp only [Act.put, List.setIfInBounds_toArray, List.set_cons_zero, List.set_cons_succ])
              refine wpAnyM_take 6 (v := ?_) rfl (by kernel_rfl) (fun _ _ _ h => h) (Or.inl ⟨by rfl, ?_⟩) (by assumption) ?_
              rotate_left
              · (intro wx hSw; (try dsimp only at hSw); go_simp; (try with_reducible rfl))
              (try simp only [Act.put, List.setIfInBounds_toArray, List.set_cons_zero, List.set_cons_succ])
              refine wpAnyM_take 7 (v := ?_) rfl (by kernel_rfl) (fun _ _ _ h => h) (Or.inl ⟨by rfl, ?_⟩) (by assumption) ?_
              rotate_left
              · (intro wx hSw; (try dsimp only at hSw); go_simp; (try with_reducible rfl))
              (try simp only [Act.put, List.setIfInBounds_toArray, List.set_cons_zero, List.set_cons_succ])
              refine wpAnyM_take 8 (v := ?_) rfl (by kernel_rfl) (fun _ _ _ h => h) (Or.inl ⟨by rfl, ?_⟩) (by assumption) ?_
              rotate_left
              · (intro wx hSw; (try dsimp only at hSw); go_simp; (try with_reducible rfl))
              (try simp only [Act.put, List.setIfInBounds_toArray, List.set_cons_zero, List.set_cons_succ])
              refine wpAnyM_take 9 (v := ?_) rfl (by kernel_rfl) (fun _ _ _ h => h) (Or.inl ⟨by rfl, ?_⟩) (by assumption) ?_
              rotate_left
              · (intro wx hSw; (try dsimp only at hSw); go_simp; (try with_reducible rfl))
              (try simp only [Act.put, List.setIfInBounds_toArray, List.set_cons_zero, List.set_cons_succ])
              refine wpAnyM_take 10 (v := ?_) rfl (by kernel_rfl) (fun _ _ _ h => h) (Or.inl ⟨by rfl, ?_⟩) (by assumption) ?_
              rotate_left
              · (intro wx hSw; (try dsimp only at hSw); go_simp; (try with_reducible rfl))
              (try simp only [Act.put, List.setIfInBounds_toArray, List.set_cons_zero, List.set_cons_succ])
              refine wpAnyM_oneS 11 rfl (by kernel_rfl) (fun K hK => ?_)
              go_simp
              (refine MC.out.mono ?_); rintro e w7 ⟨rfl, hu7⟩; have L7 := Lib.hid (HL6.out.upd' hcb (Upd.after (Below.drew (Below.refl _ _)) hu7)); have m0' := L7.out.a.pB.cell (i := 276 + j) (by omega); have m1' := L7.out.fB.cell (i := j) (by omega); (rw [EF.out] at m1'); have n0 := L7.out.vB.cell (i := j) (by omega); have n1 := L7.out.vB.free j; clear hu7 m0 m1
              (try dsimp only)
              (try simp only [Act.put, List.setIfInBounds_toArray, List.set_cons_zero, List.set_cons_succ])
              clear hHeld
              refine hK.out _ _ ?_ (fun hHeld => ?_)
              · exact ⟨m0', m1'⟩
              clear hK K
              (try simp only [Act.put, List.setIfInBounds_toArray, List.set_cons_zero, List.set_cons_succ])
              refine wpAnyM_take 12 (v := ?_) rfl (by kernel_rfl) (fun _ _ _ h => h) (Or.inl ⟨by rfl, ?_⟩) (by assumption) ?_
              rotate_left
              · (intro wx hSw; (try dsimp only at hSw); go_simp; (try with_reducible rfl))
              (try simp only [Act.put, List.setIfInBounds_toArray, List.set_cons_zero, List.set_cons_succ])
              refine wpAnyM_one 13 rfl (by kernel_rfl) (fun K hK => ?_)
              go_simp
              refine hK.out _ _ (.inl (by kernel_rfl)) (fun _ => ?_)
              clear hK K
              (try simp only [Act.put, List.setIfInBounds_toArray, List.set_cons_zero, List.set_cons_succ])
              refine wpAnyM_done (by kernel_rfl) ?_ _
              obtain ⟨AV, hAV⟩ : ∃ x, bkA P S R j = x := ⟨_, rfl⟩
              obtain ⟨MV, hMV⟩ : ∃ x, mulV FV VV 30 = x := ⟨_, rfl⟩
              obtain ⟨MH, hMH⟩ : ∃ x, mulH FV VV 30 = x := ⟨_, rfl⟩
              obtain ⟨fl, e1, e2, e3⟩ := pr_flag EHJ.out EFV.out EFH.out EVV.out EVH.out hAV hMV hMH
              have eV : vS' P S (j + 1) j = VV := by unfold vS'; rw [if_pos (by omega)]; exact e2
              have eA : aS' P S R j j = AV := by unfold aS'; rw [if_pos (by omega)]; exact hAV
              have L8 : PrB c (HJ || FH || VH) P S fb vb ab (fS' P S (j + 1)) (vS' P S (j + 1)) (aS' P S R j) w (w7.setCell ⟨vb, j, none⟩ (.int .i64 VV)) := (L7.out.setV j VV).cong (fun _ _ => rfl) (fun x hx => by
                simp only [Go.Proofs.Ytokcdlcmamdloaa.upd]
                by_cases h1 : x = j
                · subst h1; rw [if_pos rfl, eV]
                · rw [if_neg h1]; unfold vS'; split <;> split <;> first | rfl | omega) (fun _ _ => rfl)
              generalize w7.setCell ⟨vb, j, none⟩ (.int .i64 VV) = W8 at *
              have a0 := L8.aB.cell (i := j) (by omega)
              have a1 := L8.fB.cell (i := j) (by omega)
              have a2 := L8.vB.cell (i := j) (by omega)
              rw [eA] at a0
              rw [EF.out] at a1
              rw [eV] at a2
              have rc := L8.a.upd.cellc HC.out
              have rf := (L8.a.upd.frozen hcb).trans HF.out
              have MC := Lib.hid (rm_any c _ FV VV W8.drew rc rf)
              rw [hMV, hMH] at MC
              have HL8 := Lib.hid L8
              have EV := Lib.hid eV
              have EA := Lib.hid eA
              have EFL := Lib.hid fl
              have E3 := Lib.hid e3
              clear n0 n1 L7 L8 HL6 rc hMV hMH hAV fl e1 e2 e3 eV eA m0' m1' EHJ EFH EVH EFV EVV
              have k2 : (j : Int) < 25 := by omega
              have k3 : (0 : Int) ≤ (j : Int) + 1 := by omega
              have k4 : (j : Int) + 1 < 25 := by omega
              have k5 : ((j : Int) + 1).toNat = j + 1 := by omega
              go_upto_region 20 with fail
              refine wp_region_M (fun w' => w'.cell? ⟨ab, j, none⟩ = some (.int .i64 AV) ∧ w'.cell? ⟨fb, j, none⟩ = some (.int .i64 FV) ∧ w'.cell? ⟨vb, j, none⟩ = some (.int .i64 VV)) 20 (by kernel_rfl) ?_ (fun hHeld => ?_)
              · exact ⟨a0, a1, a2⟩
              refine wpAnyM_take 0 (v := ?_) rfl (by kernel_rfl) (fun _ _ _ h => h) (Or.inl ⟨by rfl, ?_⟩) (by assumption) ?_
              rotate_left
              · (intro wx hSw; (try dsimp only at hSw); go_simp; (try with_reducible rfl))
              (try simp only [Act.put, List.setIfInBounds_toArray, List.set_cons_zero, List.set_cons_succ])
              refine wpAnyM_take 1 (v := ?_) rfl (by kernel_rfl) (fun _ _ _ h => h) (Or.inl ⟨by rfl, ?_⟩) (by assumption) ?_
              rotate_left
              · (intro wx hSw; (try dsimp only at hSw); go_simp; (try with_reducible rfl))
              (try simp only [Act.put, List.setIfInBounds_toArray, List.set_cons_zero, List.set_cons_succ])
              refine wpAnyM_take 2 (v := ?_) rfl (by kernel_rfl) (fun _ _ _ h => h) (Or.inl ⟨by rfl, ?_⟩) (by assumption) ?_
              rotate_left
              · (intro wx hSw; (try dsimp only at hSw); go_simp; (try with_reducible rfl))
              (try simp only [Act.put, List.setIfInBounds_toArray, List.set_cons_zero, List.set_cons_succ])
              refine wpAnyM_take 3 (v := ?_) rfl (by kernel_rfl) (fun _ _ _ h => h) (Or.inl ⟨by rfl, ?_⟩) (by assumption) ?_
              rotate_left
              · (intro wx hSw; (try dsimp only at hSw); go_simp; (try with_reducible rfl))
              (try simp only [Act.put, List.setIfInBounds_toArray, List.set_cons_zero, List.set_cons_succ])
              refine wpAnyM_take 4 (v := ?_) rfl (by kernel_rfl) (fun _ _ _ h => h) (Or.inl ⟨by rfl, ?_⟩) (by assumption) ?_
              rotate_left
              · (intro wx hSw; (try dsimp only at hSw); go_simp; (try with_reducible rfl))
              (try simp only [Act.put, List.setIfInBounds_toArray, List.set_cons_zero, List.set_cons_succ])
              refine wpAnyM_take 5 (v := ?_) rfl (by kernel_rfl) (fun _ _ _ h => h) (Or.inl ⟨by rfl, ?_⟩) (by assumption) ?_
              rotate_left
              · (intro wx hSw; (try dsimp only at hSw); go_simp; (try with_reducible rfl))
              (try simp only [Act.put, List.setIfInBounds_toArray, List.set_cons_zero, List.set_cons_succ])
              refine wpAnyM_take 6 (v := ?_) rfl (by kernel_rfl) (fun _ _ _ h => h) (Or.inl ⟨by rfl, ?_⟩) (by assumption) ?_
              rotate_left
              · (intro wx hSw; (try dsimp only at hSw); go_simp; (try with_reducible rfl))
              (try simp only [Act.put, List.setIfInBounds_toArray, List.set_cons_zero, List.set_cons_succ])
              refine wpAnyM_take 7 (v := ?_) rfl (by kernel_rfl) (fun _ _ _ h => h) (Or.inl ⟨by rfl, ?_⟩) (by assumption) ?_
              rotate_left
              · (intro wx hSw; (try dsimp only at hSw); go_simp; (try with_reducible rfl))
              (try simp only [Act.put, List.setIfInBounds_toArray, List.set_cons_zero, List.set_cons_succ])
              refine wpAnyM_take 8 (v := ?_) rfl (by kernel_rfl) (fun _ _ _ h => h) (Or.inl ⟨by rfl, ?_⟩) (by assumption) ?_
              rotate_left
              · (intro wx hSw; (try dsimp only at hSw); go_simp; (try with_reducible rfl))
              (try simp only [Act.put, List.setIfInBounds_toArray, List.set_cons_zero, List.set_cons_succ])
              refine wpAnyM_take 9 (v := ?_) rfl (by kernel_rfl) (fun _ _ _ h => h) (Or.inl ⟨by rfl, ?_⟩) (by assumption) ?_
              rotate_left
              · (intro wx hSw; (try dsimp only at hSw); go_simp; (try with_reducible rfl))
              (try simp only [Act.put, List.setIfInBounds_toArray, List.set_cons_zero, List.set_cons_succ])
              refine wpAnyM_take 10 (v := ?_) rfl (by kernel_rfl) (fun _ _ _ h => h) (Or.inl ⟨by rfl, ?_⟩) (by assumption) ?_
              rotate_left
              · (intro wx hSw; (try dsimp only at hSw); go_simp; (try with_reducible rfl))
              (try simp only [Act.put, List.setIfInBounds_toArray, List.set_cons_zero, List.set_cons_succ])
              refine wpAnyM_take 11 (v := ?_) rfl (by kernel_rfl) (fun _ _ _ h => h) (Or.inl ⟨by rfl, ?_⟩) (by assumption) ?_
              rotate_left
              · (intro wx hSw; (try dsimp only at hSw); go_simp; (try with_reducible rfl))
              (try simp only [Act.put, List.setIfInBounds_toArray, List.set_cons_zero, List.set_cons_succ])
              refine wpAnyM_take 12 (v := ?_) rfl (by kernel_rfl) (fun _ _ _ h => h) (Or.inl ⟨by rfl, ?_⟩) (by assumption) ?_
              rotate_left
              · (intro wx hSw; (try dsimp only at hSw); go_simp; (try with_reducible rfl))
              (try simp only [Act.put, List.setIfInBounds_toArray, List.set_cons_zero, List.set_cons_succ])
              refine wpAnyM_take 13 (v := ?_) rfl (by kernel_rfl) (fun _ _ _ h => h) (Or.inl ⟨by rfl, ?_⟩) (by assumption) ?_
              rotate_left
              · (intro wx hSw; (try dsimp only at hSw); go_simp; (try with_reducible rfl))
              (try simp only [Act.put, List.setIfInBounds_toArray, List.set_cons_zero, List.set_cons_succ])
              refine wpAnyM_take 14 (v := ?_) rfl (by kernel_rfl) (fun _ _ _ h => h) (Or.inl ⟨by rfl, ?_⟩) (by assumption) ?_
              rotate_left
              · (intro wx hSw; (try dsimp only at hSw); go_simp; (try with_reducible rfl))
              (try simp only [Act.put, List.setIfInBounds_toArray, List.set_cons_zero, List.set_cons_succ])
              refine wpAnyM_take 15 (v := ?_) rfl (by kernel_rfl) (fun _ _ _ h => h) (Or.inl ⟨by rfl, ?_⟩) (by assumption) ?_
              rotate_left
              · (intro wx hSw; (try dsimp only at hSw); go_simp; (try with_reducible rfl))
              (try simp only [Act.put, List.setIfInBounds_toArray, List.set_cons_zero, List.set_cons_succ])
              refine wpAnyM_take 16 (v := ?_) rfl (by kernel_rfl) (fun _ _ _ h => h) (Or.inl ⟨by rfl, ?_⟩) (by assumption) ?_
              rotate_left
              · (intro wx hSw; (try dsimp only at hSw); go_simp; (try with_reducible rfl))
              (try simp only [Act.put, List.setIfInBounds_toArray, List.set_cons_zero, List.set_cons_succ])
              refine wpAnyM_oneS 17 rfl (by kernel_rfl) (fun K hK => ?_)
              go_simp
              (refine MC.out.mono ?_); rintro e w9 ⟨rfl, hu9⟩; have L9 := Lib.hid (HL8.out.upd' hcb (Upd.after (Below.drew (Below.refl _ _)) hu9)); have kp := (show _ ∧ _ ∧ _ from ⟨(L9.out.aB.cell (i := j) (by omega)).trans (by rw [EA.out]), (L9.out.fB.cell (i := j) (by omega)).trans (by rw [EF.out]), (L9.out.vB.cell (i := j) (by omega)).trans (by rw [EV.out])⟩); have kc := L9.out.a.upd.cellc HC.out; have kf := (L9.out.a.upd.frozen hcb).trans HF.out; clear hu9 a0 a1 a2
              (try dsimp only)
              (try simp only [Act.put, List.setIfInBounds_toArray, List.set_cons_zero, List.set_cons_succ])
              clear hHeld
              refine hK.out _ _ ?_ (fun hHeld => ?_)
              · exact kp
              clear hK K
              (try simp only [Act.put, List.setIfInBounds_toArray, List.set_cons_zero, List.set_cons_succ])
              refine wpAnyM_oneS 18 rfl (by kernel_rfl) (fun K hK => ?_)
              go_simp
              (refine (rplus_any c _ AV MV _ kc kf).mono ?_); rintro e w10 ⟨rfl, hw10⟩; have U10 : Upd c (HJ || FH || VH || MH || addH AV MV) w9 w10 := (by rw [← hw10, show (HJ || FH || VH || MH || addH AV MV) = (HJ || FH || VH || MH || satH AV || satH MV || satH (satV AV + satV MV)) from by simp only [addH, Bool.or_assoc]]; exact Upd.set c _ _); have LA := Lib.hid (L9.out.upd' hcb U10); have kp2 := (show _ ∧ _ ∧ _ from ⟨(LA.out.aB.cell (i := j) (by omega)).trans (by rw [EA.out]), (LA.out.fB.cell (i := j) (by omega)).trans (by rw [EF.out]), (LA.out.vB.cell (i := j) (by omega)).trans (by rw [EV.out])⟩); have n0 := LA.out.aB.cell (i := j + 1) (by omega); have n1 := LA.out.aB.free (j + 1); clear hw10 U10
              (try dsimp only)
              (try simp only [Act.put, List.setIfInBounds_toArray, List.set_cons_zero, List.set_cons_succ])
              clear hHeld
              refine hK.out _ _ ?_ (fun hHeld => ?_)
              · exact kp2
              clear hK K
              (try simp only [Act.put, List.setIfInBounds_toArray, List.set_cons_zero, List.set_cons_succ])
              refine wpAnyM_take 19 (v := ?_) rfl (by kernel_rfl) (fun _ _ _ h => h) (Or.inl ⟨by rfl, ?_⟩) (by assumption) ?_
              rotate_left
              · (intro wx hSw; (try dsimp only at hSw); go_simp; (try with_reducible rfl))
              (try simp only [Act.put, List.setIfInBounds_toArray, List.set_cons_zero, List.set_cons_succ])
              refine wpAnyM_one 20 rfl (by kernel_rfl) (fun K hK => ?_)
              go_simp
              refine hK.out _ _ (.inl (by kernel_rfl)) (fun _ => ?_)
              clear hK K
              (try simp only [Act.put, List.setIfInBounds_toArray, List.set_cons_zero, List.set_cons_succ])
              refine wpAnyM_done (by kernel_rfl) ?_ _
              go_wp2_with fail
              go_roundw
              case rel =>
                refine ⟨j + 1, by omega, by go_num, ?_⟩
                rw [← EFL.out]
                refine Lib.hid ((LA.out.setA (j + 1) (addV AV MV)).cong (fun _ _ => rfl) (fun _ _ => rfl) (fun x hx => ?_))
                simp only [Go.Proofs.Ytokcdlcmamdloaa.upd]
                by_cases h1 : x = j + 1
                · subst h1; rw [if_pos rfl]; unfold aS'; rw [if_pos (by omega), E3.out]
                · rw [if_neg h1]; unfold aS'; split <;> split <;> first | rfl | omega
              case measure => simp [intOf]; omega
        · have hj24 : j = 24 := by omega
          subst hj24
          rw [show ((24 : Nat) : Int) = 24 from rfl]
          clear hj hlt
          obtain ⟨FF, hFF⟩ : ∃ x, fS' P S 24 = x := ⟨_, rfl⟩
          obtain ⟨VF, hVF⟩ : ∃ x, vS' P S 24 = x := ⟨_, rfl⟩
          obtain ⟨AF, hAF⟩ : ∃ x, aS' P S R 24 = x := ⟨_, rfl⟩
          rw [hFF, hVF, hAF] at Q
          have Q0 := Q.out.below (Below.drew (Below.refl _ _))
          obtain ⟨HM0, k1⟩ := prep_rows Q0
          obtain ⟨HM1, Z1, k2⟩ := k1 _ rfl
          obtain ⟨HM2, Z2, k3⟩ := k2 _ rfl
          obtain ⟨HM3, Z3, k4⟩ := k3 _ rfl
          obtain ⟨HM4, UE⟩ := k4 _ rfl
          have HM0 := Lib.hid HM0
          have HM1 := Lib.hid HM1
          have HM2 := Lib.hid HM2
          have HM3 := Lib.hid HM3
          have HM4 := Lib.hid HM4
          have Z0 := Lib.hid Q0.a.z0
          have Z1 := Lib.hid Z1
          have Z2 := Lib.hid Z2
          have Z3 := Lib.hid Z3
          have UE := Lib.hid UE
          have EE := Lib.hid (And.intro hFF (And.intro hVF hAF))
          clear Q0 Q k1 k2 k3 k4 hFF hVF hAF
          go_upto_region 21 with fail
          refine wp_region_M (fun w' => Blk w' w.heap.size 25 300 P ∧ Blk w' fb 23 24 FF ∧ Blk w' vb 23 24 VF ∧ Blk w' ab 78 25 AF) 7 (by kernel_rfl) ?_ (fun hHeld => ?_)
          · exact HM0.out
          refine wpAnyM_take 0 (v := ?_) rfl (by kernel_rfl) (fun _ _ _ h => h) (Or.inl ⟨by rfl, ?_⟩) (by assumption) ?_
          rotate_left
          · (intro wx hSw; refine Eq.trans (run_load_row 25 (.tmp 5) (by rfl) (w.heap.size) (by rfl) _ _ _ _ (hSw.1) Try.underlying25 rfl (icov.trans (by rw [arrv_size]))) ?_; with_reducible rfl)
          (try simp only [Act.put, List.setIfInBounds_toArray, List.set_cons_zero, List.set_cons_succ])
          refine wpAnyM_take 1 (v := ?_) rfl (by kernel_rfl) (fun _ _ _ h => h) (Or.inl ⟨by rfl, ?_⟩) (by assumption) ?_
          rotate_left
          · (intro wx hSw; refine Eq.trans (run_load_row 23 (.tmp 13) (by rfl) (fb) (by rfl) _ _ _ _ (hSw.2.1) Try.underlying23 rfl (icol.trans (by rw [arrv_size]))) ?_; with_reducible rfl)
          (try simp only [Act.put, List.setIfInBounds_toArray, List.set_cons_zero, List.set_cons_succ])
          refine wpAnyM_take 2 (v := ?_) rfl (by kernel_rfl) (fun _ _ _ h => h) (Or.inl ⟨by rfl, ?_⟩) (by assumption) ?_
          rotate_left
          · (intro wx hSw; refine Eq.trans (run_load_row 23 (.tmp 14) (by rfl) (vb) (by rfl) _ _ _ _ (hSw.2.2.1) Try.underlying23 rfl (icol.trans (by rw [arrv_size]))) ?_; with_reducible rfl)
          (try simp only [Act.put, List.setIfInBounds_toArray, List.set_cons_zero, List.set_cons_succ])
          refine wpAnyM_take 3 (v := ?_) rfl (by kernel_rfl) (fun _ _ _ h => h) (Or.inl ⟨by rfl, ?_⟩) (by assumption) ?_
          rotate_left
          · (intro wx hSw; refine Eq.trans (run_load_row 78 (.tmp 15) (by rfl) (ab) (by rfl) _ _ _ _ (hSw.2.2.2) Try.underlying78 rfl (ia25.trans (by rw [arrv_size]))) ?_; with_reducible rfl)
          (try simp only [Act.put, List.setIfInBounds_toArray, List.set_cons_zero, List.set_cons_succ])
          refine wpAnyM_oneS 4 rfl (by kernel_rfl) (fun K hK => ?_)
          go_simp; rw [if_pos (arrv_size _ _), run_storeCells_row _ Z0.out]; go_simp
          clear hHeld
          refine hK.out _ _ ?_ (fun hHeld => ?_)
          · exact HM1.out
          clear hK K
          (try simp only [Act.put, List.setIfInBounds_toArray, List.set_cons_zero, List.set_cons_succ])
          refine wpAnyM_oneS 5 rfl (by kernel_rfl) (fun K hK => ?_)
          go_simp; rw [if_pos (arrv_size _ _), run_storeCells_row _ Z1.out]; go_simp
          clear hHeld
          refine hK.out _ _ ?_ (fun hHeld => ?_)
          · exact HM2.out
          clear hK K
          (try simp only [Act.put, List.setIfInBounds_toArray, List.set_cons_zero, List.set_cons_succ])
          refine wpAnyM_oneS 6 rfl (by kernel_rfl) (fun K hK => ?_)
          go_simp; rw [if_pos (arrv_size _ _), run_storeCells_row _ Z2.out]; go_simp
          clear hHeld
          refine hK.out _ _ ?_ (fun hHeld => ?_)
          · exact HM3.out
          clear hK K
          (try simp only [Act.put, List.setIfInBounds_toArray, List.set_cons_zero, List.set_cons_succ])
          refine wpAnyM_one 7 rfl (by kernel_rfl) (fun K hK => ?_)
          go_simp; rw [if_pos (arrv_size _ _), run_storeCells_row _ Z3.out]; go_simp
          refine hK.out _ _ (.inl (by kernel_rfl)) (fun _ => ?_)
          clear hK K
          (try simp only [Act.put, List.setIfInBounds_toArray, List.set_cons_zero, List.set_cons_succ])
          refine wpAnyM_done (by kernel_rfl) ?_ _
          (try clear hHeld)
          go_wp2_with fail
          refine bodyPost_ret (results_rows4 Try.results48 _ _ (w.heap.size + 1 + 1) (w.heap.size + 1 + 1 + 1) (w.heap.size + 1 + 1 + 1 + 1) (w.heap.size + 1 + 1 + 1 + 1 + 1) 25 23 23 78 (arrv 300 P) (arrv 24 FF) (arrv 24 VF) (arrv 25 AF) (0, 0) (0, 0) (0, 0) (0, 0) _ _ _ _
            rfl HM4.out.1 Try.underlying25 rfl (icov.trans (by rw [arrv_size])) rfl HM4.out.2.1 Try.underlying23 rfl (icol.trans (by rw [arrv_size])) rfl HM4.out.2.2.1 Try.underlying23 rfl (icol.trans (by rw [arrv_size])) rfl HM4.out.2.2.2 Try.underlying78 rfl (ia25.trans (by rw [arrv_size]))) rfl ⟨?_, ?_⟩
          · rw [EP.out, ES.out, ER.out]
            have r1 : arrv 24 (bkF P S) = arrv 24 FF := arrv_congr fun x hx => by rw [← EE.out.1]; unfold fS'; rw [if_pos hx]
            have r2 : arrv 24 (bkV P S) = arrv 24 VF := arrv_congr fun x hx => by rw [← EE.out.2.1]; unfold vS'; rw [if_pos hx]
            have r3 : arrv 25 (bkA P S R) = arrv 25 AF := arrv_congr fun x hx => by rw [← EE.out.2.2]; unfold aS'; rw [if_pos (by omega)]
            rw [r1, r2, r3]
          · have e : (h || lkH p H r) = (H3 || orB (bkS P S R) 24) := by
              rw [← EH3.out, ← EH2.out, ← EH1.out]
              unfold lkH
              rw [EP.out, ES.out, ER.out]
              simp only [Bool.or_assoc]
            rw [e]
            exact UE.out
end Go.Proofs.Ytokcdlcmamdloaa
