/- Contracts of the program's functions and plain laws, part 9: they hold for all arguments. -/
import Derived.Test.YtiajjiphknlldaaGreatQ08
import Derived.Test.YtiajjiphknlldaaGreatQ06
/- fuse.One (2): the walk. -/
namespace Go.Proofs.YtiajjiphknlldaaGreat
open Go.RowKit
set_option maxRecDepth 100000
theorem fo_start (c : Addr) (h : Bool) (S P O : Nat → Int) (w : World) (hc : w.cell? c = some (.bool h)) : FoR c h S P O w ((((((w.alloc (.cells (arrv 24 S) 23)).alloc (.cells (arrv 300 P) 26)).alloc (.cells (arrv 27 O) 29)).alloc (.cells #[.int .i64 0, .int .i64 0, .int .i64 0, .int .i64 0, .int .i64 0, .int .i64 0, .int .i64 0, .int .i64 0, .int .i64 0, .int .i64 0, .int .i64 0, .int .i64 0, .int .i64 0, .int .i64 0, .int .i64 0, .int .i64 0, .int .i64 0, .int .i64 0, .int .i64 0, .int .i64 0, .int .i64 0, .int .i64 0, .int .i64 0, .int .i64 0] 23)).alloc (.cells Tryz.zeroCells26 26)).alloc (.cells #[.bool false, .int .i64 0, .int .i64 0] 39)) := by
  rw [zvec24, zcov]
  have h3 := blk_new3 w (.cells (arrv 24 S) 23) (.cells (arrv 300 P) 26) (.cells (arrv 27 O) 29) 23 24 (fun _ => 0)
  have h4 := Blk.new ((((w.alloc (.cells (arrv 24 S) 23)).alloc (.cells (arrv 300 P) 26)).alloc (.cells (arrv 27 O) 29)).alloc (.cells (arrv 24 (fun _ => 0)) 23)) 26 300 (fun _ => 0)
  rw [show ((((w.alloc (.cells (arrv 24 S) 23)).alloc (.cells (arrv 300 P) 26)).alloc (.cells (arrv 27 O) 29)).alloc (.cells (arrv 24 (fun _ => 0)) 23)).heap.size = w.heap.size + 1 + 1 + 1 + 1 from by simp] at h4
  have h5 := Res.new (((((w.alloc (.cells (arrv 24 S) 23)).alloc (.cells (arrv 300 P) 26)).alloc (.cells (arrv 27 O) 29)).alloc (.cells (arrv 24 (fun _ => 0)) 23)).alloc (.cells (arrv 300 (fun _ => 0)) 26)) false 0 0
  rw [show (((((w.alloc (.cells (arrv 24 S) 23)).alloc (.cells (arrv 300 P) 26)).alloc (.cells (arrv 27 O) 29)).alloc (.cells (arrv 24 (fun _ => 0)) 23)).alloc (.cells (arrv 300 (fun _ => 0)) 26)).heap.size = w.heap.size + 1 + 1 + 1 + 1 + 1 from by simp] at h5
  exact ⟨Upd.then (Upd.refl hc) (by (repeat (first | with_reducible exact Below.refl _ _ | with_reducible apply Below.drew | (with_reducible refine below_drewN ?_ _) | (with_reducible refine Below.alloc ?_ (by (try simp) <;> omega) _) | (with_reducible refine Below.setCell ?_ (by (try simp) <;> omega) _)))), ((((Blk.new w _ 24 _).alloc _).alloc _).alloc _).alloc _ |>.alloc _, (((Blk.new1 w _ _ 300 _).alloc _).alloc _).alloc _ |>.alloc _, ((blk_new2 w _ _ _ 27 _).alloc _).alloc _ |>.alloc _, (h3.alloc _).alloc _, h4.alloc _, h5⟩
set_option maxHeartbeats 4000000 in
theorem fuone_no (c : Addr) (h : Bool) (S P O : Nat → Int) (w : World) (hc : w.cell? c = some (.bool h)) (hf : w.frozen? c = false) (hO : -9223372036854775808 ≤ O 26 ∧ O 26 ≤ 9223372036854775807) (hL : foL P O = false) :
    Calls Tryz.prog 5 #[.pointer (some c), .agg (arrv 24 S), .agg (arrv 300 P), .agg (arrv 27 O)] w fun e w' =>
      e = .returned (.tuple #[.agg (arrv 24 (keepF S)), .agg (arrv 300 (condF P)), .agg (res3 false (foY O) (foS P O))]) ∧ Upd c (h || foH S P O) w w' := by
  have hcb := World.block_lt_of_cell? w c hc
  have R0 := fo_start c h S P O w hc
  have HC := Lib.hid hc
  have HF := Lib.hid hf
  have HL := Lib.hid hL
  have HO := Lib.hid hO
  clear hc hf hL hO
  go_enter Tryz.func5, Tryz.ntmps5
  go_upto_region 1 with fail
  generalize ((((((w.alloc (.cells (arrv 24 S) 23)).alloc (.cells (arrv 300 P) 26)).alloc (.cells (arrv 27 O) 29)).alloc (.cells #[.int .i64 0, .int .i64 0, .int .i64 0, .int .i64 0, .int .i64 0, .int .i64 0, .int .i64 0, .int .i64 0, .int .i64 0, .int .i64 0, .int .i64 0, .int .i64 0, .int .i64 0, .int .i64 0, .int .i64 0, .int .i64 0, .int .i64 0, .int .i64 0, .int .i64 0, .int .i64 0, .int .i64 0, .int .i64 0, .int .i64 0, .int .i64 0] 23)).alloc (.cells Tryz.zeroCells26 26)).alloc (.cells #[.bool false, .int .i64 0, .int .i64 0] 39)) = W0 at *
  have HS := Lib.hid R0.drew
  clear R0
  go_cut [] from 16 to 21 (fun wx => Hid (FoR c (h || keepH S || condH P) (keepF S) (condF P) O w wx))
  case first =>
    refine wp_region_M (fun w' => True) 7 (by kernel_rfl) ?_ (fun hHeld => ?_)
    · trivial
    refine wpAnyM_take 0 (v := ?_) rfl (by kernel_rfl) (fun _ _ _ h => h) (Or.inl ⟨by rfl, ?_⟩) (by assumption) ?_
    rotate_left
    · (intro wx hSw; (try dsimp only at hSw); go_simp; (try with_reducible rfl))
    (try simp only [Act.put, nA, nB, nC])
    refine wpAnyM_take 3 (v := ?_) rfl (by kernel_rfl) (fun _ _ _ h => h) (Or.inl ⟨by rfl, ?_⟩) (by assumption) ?_
    rotate_left
    · (intro wx hSw; (try dsimp only at hSw); go_simp; (try with_reducible rfl))
    (try simp only [Act.put, nA, nB, nC])
    refine wpAnyM_twoS 1 4 rfl rfl (by kernel_rfl) (fun K hK => ?_) (fun K hK => ?_)
    · refine if_pos_of (by rfl) (wp_of_val (run_load_row 23 (.tmp 5) (by rfl) w.heap.size (by rfl) _ _ _ _ HS.out.s Tryz.underlying23 rfl (ist.trans (by rw [arrv_size]))) ?_); simp only [Act.put, List.setIfInBounds_toArray, List.set_cons_zero, List.set_cons_succ]
      clear hHeld
      refine hK.out _ _ ?_ (fun hHeld => ?_)
      · trivial
      clear hK K
      (try simp only [Act.put, nA, nB, nC])
      refine wpAnyM_twoS 2 4 rfl rfl (by kernel_rfl) (fun K hK => ?_) (fun K hK => ?_)
      · go_simp
        (refine (keep_any c h S _ (HS.out.upd.cellc HC.out) ((HS.out.upd.frozen hcb).trans HF.out)).mono ?_); rintro e w1 ⟨rfl, hu1⟩; have HS2 := Lib.hid (HS.out.upd' hcb hu1); clear HS; have HS := HS2; clear HS2 hu1
        (try dsimp only)
        (try simp only [Act.put, nA, nB, nC])
        clear hHeld
        refine hK.out _ _ ?_ (fun hHeld => ?_)
        · trivial
        clear hK K
        (try simp only [Act.put, nA, nB, nC])
        refine wpAnyM_oneS 4 rfl (by kernel_rfl) (fun K hK => ?_)
        refine if_pos_of (by rfl) (wp_of_val (run_load_row 26 (.tmp 6) (by rfl) (w.heap.size + 1) (by rfl) _ _ _ _ HS.out.p Tryz.underlying26 rfl (icov.trans (by rw [arrv_size]))) ?_); simp only [Act.put, List.setIfInBounds_toArray, List.set_cons_zero, List.set_cons_succ]
        clear hHeld
        refine hK.out _ _ ?_ (fun hHeld => ?_)
        · trivial
        clear hK K
        (try simp only [Act.put, nA, nB, nC])
        refine wpAnyM_oneS 5 rfl (by kernel_rfl) (fun K hK => ?_)
        go_simp
        (refine (cond_any c _ P _ (HS.out.upd.cellc HC.out) ((HS.out.upd.frozen hcb).trans HF.out)).mono ?_); rintro e w2 ⟨rfl, hu2⟩; have HS2 := Lib.hid (HS.out.upd' hcb hu2); clear HS; have HS := HS2; clear HS2 hu2; have B6 := HS.out.s; have B7 := HS.out.p
        (try dsimp only)
        (try simp only [Act.put, nA, nB, nC])
        clear hHeld
        refine hK.out _ _ ?_ (fun hHeld => ?_)
        · trivial
        clear hK K
        (try simp only [Act.put, nA, nB, nC])
        refine wpAnyM_oneS 6 rfl (by kernel_rfl) (fun K hK => ?_)
        go_simp; rw [if_pos (arrv_size _ _), run_storeCells_row _ B6]; go_simp; have HS2 := Lib.hid (HS.out.rowS (keepF S)); clear HS; have HS := HS2; clear HS2 B6 B7; have B7 := HS.out.p
        clear hHeld
        refine hK.out _ _ ?_ (fun hHeld => ?_)
        · trivial
        clear hK K
        (try simp only [Act.put, nA, nB, nC])
        refine wpAnyM_one 7 rfl (by kernel_rfl) (fun K hK => ?_)
        go_simp; rw [if_pos (arrv_size _ _), run_storeCells_row _ B7]; go_simp; have HS2 := Lib.hid (HS.out.rowP (condF P)); clear HS; have HS := HS2; clear HS2 B7
        refine hK.out _ _ (.inl (by kernel_rfl)) (fun _ => ?_)
        clear hK K
        (try simp only [Act.put, nA, nB, nC])
        refine wpAnyM_done (by kernel_rfl) ?_ _
        (go_wp2_with fail; go_meet; exact HS)
      · refine if_pos_of (by rfl) (wp_of_val (run_load_row 26 (.tmp 6) (by rfl) (w.heap.size + 1) (by rfl) _ _ _ _ HS.out.p Tryz.underlying26 rfl (icov.trans (by rw [arrv_size]))) ?_); simp only [Act.put, List.setIfInBounds_toArray, List.set_cons_zero, List.set_cons_succ]
        clear hHeld
        refine hK.out _ _ ?_ (fun hHeld => ?_)
        · trivial
        clear hK K
        (try simp only [Act.put, nA, nB, nC])
        refine wpAnyM_oneS 2 rfl (by kernel_rfl) (fun K hK => ?_)
        go_simp
        (refine (keep_any c h S _ (HS.out.upd.cellc HC.out) ((HS.out.upd.frozen hcb).trans HF.out)).mono ?_); rintro e w1 ⟨rfl, hu1⟩; have HS2 := Lib.hid (HS.out.upd' hcb hu1); clear HS; have HS := HS2; clear HS2 hu1
        (try dsimp only)
        (try simp only [Act.put, nA, nB, nC])
        clear hHeld
        refine hK.out _ _ ?_ (fun hHeld => ?_)
        · trivial
        clear hK K
        (try simp only [Act.put, nA, nB, nC])
        refine wpAnyM_oneS 5 rfl (by kernel_rfl) (fun K hK => ?_)
        go_simp
        (refine (cond_any c _ P _ (HS.out.upd.cellc HC.out) ((HS.out.upd.frozen hcb).trans HF.out)).mono ?_); rintro e w2 ⟨rfl, hu2⟩; have HS2 := Lib.hid (HS.out.upd' hcb hu2); clear HS; have HS := HS2; clear HS2 hu2; have B6 := HS.out.s; have B7 := HS.out.p
        (try dsimp only)
        (try simp only [Act.put, nA, nB, nC])
        clear hHeld
        refine hK.out _ _ ?_ (fun hHeld => ?_)
        · trivial
        clear hK K
        (try simp only [Act.put, nA, nB, nC])
        refine wpAnyM_oneS 6 rfl (by kernel_rfl) (fun K hK => ?_)
        go_simp; rw [if_pos (arrv_size _ _), run_storeCells_row _ B6]; go_simp; have HS2 := Lib.hid (HS.out.rowS (keepF S)); clear HS; have HS := HS2; clear HS2 B6 B7; have B7 := HS.out.p
        clear hHeld
        refine hK.out _ _ ?_ (fun hHeld => ?_)
        · trivial
        clear hK K
        (try simp only [Act.put, nA, nB, nC])
        refine wpAnyM_one 7 rfl (by kernel_rfl) (fun K hK => ?_)
        go_simp; rw [if_pos (arrv_size _ _), run_storeCells_row _ B7]; go_simp; have HS2 := Lib.hid (HS.out.rowP (condF P)); clear HS; have HS := HS2; clear HS2 B7
        refine hK.out _ _ (.inl (by kernel_rfl)) (fun _ => ?_)
        clear hK K
        (try simp only [Act.put, nA, nB, nC])
        refine wpAnyM_done (by kernel_rfl) ?_ _
        (go_wp2_with fail; go_meet; exact HS)
    · refine if_pos_of (by rfl) (wp_of_val (run_load_row 26 (.tmp 6) (by rfl) (w.heap.size + 1) (by rfl) _ _ _ _ HS.out.p Tryz.underlying26 rfl (icov.trans (by rw [arrv_size]))) ?_); simp only [Act.put, List.setIfInBounds_toArray, List.set_cons_zero, List.set_cons_succ]
      clear hHeld
      refine hK.out _ _ ?_ (fun hHeld => ?_)
      · trivial
      clear hK K
      (try simp only [Act.put, nA, nB, nC])
      refine wpAnyM_oneS 1 rfl (by kernel_rfl) (fun K hK => ?_)
      refine if_pos_of (by rfl) (wp_of_val (run_load_row 23 (.tmp 5) (by rfl) w.heap.size (by rfl) _ _ _ _ HS.out.s Tryz.underlying23 rfl (ist.trans (by rw [arrv_size]))) ?_); simp only [Act.put, List.setIfInBounds_toArray, List.set_cons_zero, List.set_cons_succ]
      clear hHeld
      refine hK.out _ _ ?_ (fun hHeld => ?_)
      · trivial
      clear hK K
      (try simp only [Act.put, nA, nB, nC])
      refine wpAnyM_oneS 2 rfl (by kernel_rfl) (fun K hK => ?_)
      go_simp
      (refine (keep_any c h S _ (HS.out.upd.cellc HC.out) ((HS.out.upd.frozen hcb).trans HF.out)).mono ?_); rintro e w1 ⟨rfl, hu1⟩; have HS2 := Lib.hid (HS.out.upd' hcb hu1); clear HS; have HS := HS2; clear HS2 hu1
      (try dsimp only)
      (try simp only [Act.put, nA, nB, nC])
      clear hHeld
      refine hK.out _ _ ?_ (fun hHeld => ?_)
      · trivial
      clear hK K
      (try simp only [Act.put, nA, nB, nC])
      refine wpAnyM_oneS 5 rfl (by kernel_rfl) (fun K hK => ?_)
      go_simp
      (refine (cond_any c _ P _ (HS.out.upd.cellc HC.out) ((HS.out.upd.frozen hcb).trans HF.out)).mono ?_); rintro e w2 ⟨rfl, hu2⟩; have HS2 := Lib.hid (HS.out.upd' hcb hu2); clear HS; have HS := HS2; clear HS2 hu2; have B6 := HS.out.s; have B7 := HS.out.p
      (try dsimp only)
      (try simp only [Act.put, nA, nB, nC])
      clear hHeld
      refine hK.out _ _ ?_ (fun hHeld => ?_)
      · trivial
      clear hK K
      (try simp only [Act.put, nA, nB, nC])
      refine wpAnyM_oneS 6 rfl (by kernel_rfl) (fun K hK => ?_)
      go_simp; rw [if_pos (arrv_size _ _), run_storeCells_row _ B6]; go_simp; have HS2 := Lib.hid (HS.out.rowS (keepF S)); clear HS; have HS := HS2; clear HS2 B6 B7; have B7 := HS.out.p
      clear hHeld
      refine hK.out _ _ ?_ (fun hHeld => ?_)
      · trivial
      clear hK K
      (try simp only [Act.put, nA, nB, nC])
      refine wpAnyM_one 7 rfl (by kernel_rfl) (fun K hK => ?_)
      go_simp; rw [if_pos (arrv_size _ _), run_storeCells_row _ B7]; go_simp; have HS2 := Lib.hid (HS.out.rowP (condF P)); clear HS; have HS := HS2; clear HS2 B7
      refine hK.out _ _ (.inl (by kernel_rfl)) (fun _ => ?_)
      clear hK K
      (try simp only [Act.put, nA, nB, nC])
      refine wpAnyM_done (by kernel_rfl) ?_ _
      (go_wp2_with fail; go_meet; exact HS)
  case rest =>
    clear HS
    have HS := hcut
    clear hcut
    rename World => wx
    have o24 := HS.out.o.cell (i := 24) (by decide)
    have SA := Lib.hid (sat_any c _ (O 24) _ (HS.out.upd.cellc HC.out) ((HS.out.upd.frozen hcb).trans HF.out))
    go_upto_region 3 with (go_at_call 15; (refine SA.out.mono ?_); rintro e w3 ⟨rfl, hw3⟩; have U3 := (Upd.set c (h || keepH S || condH P || satH (O 24)) wx).then (by rw [hw3]; exact Below.refl _ _); have H3 := Lib.hid (HS.out.upd' hcb U3); clear U3 hw3)
    obtain ⟨PP, hPP⟩ : ∃ x, condF P = x := ⟨_, rfl⟩
    obtain ⟨KK, hKK⟩ : ∃ x, keepF S = x := ⟨_, rfl⟩
    obtain ⟨YV, hYV⟩ : ∃ x, satV (O 24) = x := ⟨_, rfl⟩
    obtain ⟨SV, hSV⟩ : ∃ x, updS PP O (O 25) = x := ⟨_, rfl⟩
    obtain ⟨H1, hH1⟩ : ∃ x, (h || keepH S || condH P || satH (O 24)) = x := ⟨_, rfl⟩
    obtain ⟨H2, hH2⟩ : ∃ x, (H1 || lkH PP O (O 25)) = x := ⟨_, rfl⟩
    have E : Hid (foY O = YV ∧ foS P O = SV ∧ keepF S = KK ∧ condF P = PP ∧ (h || foH S P O) = H2) := by
      refine Lib.hid ⟨hYV, by unfold foS; rw [hPP]; exact hSV, hKK, hPP, ?_⟩
      unfold foH; rw [← hH2, ← hH1, hPP]; simp only [Bool.or_assoc]
    have LK : Hid (likB YV SV (O 26) = false) := by
      have := HL.out
      unfold foL at this
      rw [E.out.1, E.out.2.1] at this
      exact Lib.hid this
    rw [hKK, hPP, hH1] at H3
    rw [hYV]
    have P3 := H3.out.p
    have O3 := H3.out.o
    have o25 := O3.cell (i := 25) (by decide)
    have IN := innov_any c H1 PP O (O 25) w3 (H3.out.upd.cellc HC.out) ((H3.out.upd.frozen hcb).trans HF.out)
    rw [hSV, hH2] at IN
    have IN := Lib.hid IN
    clear hPP hKK hYV hSV hH1 hH2 HS SA o24 HL
    go_upto_region 4 with (first | (refine wpList_load_row rfl 26 _ rfl (w.heap.size + 1) rfl 26 _ (0, 0) _ (P3) Tryz.underlying26 rfl (icov.trans (by rw [arrv_size])) ?_) | (refine wpList_load_sub rfl 27 _ rfl (w.heap.size + 1 + 1) 0 24 rfl O3 (by decide) _ Tryz.underlying27 rfl irow ?_; rw [show (fun i => O (0 + i)) = O from by funext i; rw [Nat.zero_add]]) | (go_at_call 16; (refine IN.out.mono ?_); rintro e w4 ⟨rfl, hu4⟩; have H4 := Lib.hid (H3.out.upd' hcb hu4); clear hu4))
    have H5 : Hid (FoR c H2 KK PP O w (w4.alloc (.cells #[.bool false, .int .i64 YV, .int .i64 SV] 39))) := Lib.hid (H4.out.down ((Below.refl w4.heap.size w4).alloc (Nat.le_refl _) _))
    have Q5 : Hid (Res (w4.alloc (.cells #[.bool false, .int .i64 YV, .int .i64 SV] 39)) w4.heap.size false YV SV) := Lib.hid (Res.new w4 false YV SV)
    have hrb : w.heap.size + 1 + 1 + 1 + 1 + 1 < w4.heap.size := H4.out.r2.lt
    have HRB : Hid (∃ rb, w4.heap.size = rb) := Lib.hid ⟨_, rfl⟩
    obtain ⟨rb, hrb2⟩ := HRB.out
    rw [hrb2] at Q5 hrb ⊢
    generalize w4.alloc (.cells #[.bool false, .int .i64 YV, .int .i64 SV] 39) = w5 at *
    clear hrb2 HRB H4 H3 P3 O3 o25 IN
    obtain ⟨⟨q0, q1, q2⟩, _⟩ := Q5.out.c
    have o26 := H5.out.o.cell (i := 26) (by decide)
    have LI := likely_any YV SV (O 26) w5 HO.out.1 HO.out.2
    rw [LK.out] at LI
    have LI := Lib.hid LI
    go_upto_region 5 with (go_at_call 12; (refine LI.out.mono ?_); rintro e w6 ⟨rfl, hb6⟩; have H6 := Lib.hid (H5.out.down hb6); have Q6 := Lib.hid (Q5.out.below hb6); clear hb6)
    clear LI o26 q0 q1 q2 H5 Q5
    obtain ⟨⟨s0, s1, s2⟩, g0, g1, g2⟩ := H6.out.r2.c
    have S6 := H6.out.r0
    refine wp_region_M (fun w' => Blk w' w.heap.size 23 24 KK ∧ Blk w' (w.heap.size + 1) 26 300 PP ∧ Res w' rb false YV SV) 5 (by kernel_rfl) ?_ (fun hHeld => ?_)
    · exact ⟨H6.out.s.drew, H6.out.p.drew, Q6.out⟩
    refine wpAnyM_take 0 (v := ?_) rfl (by kernel_rfl) (fun _ _ _ h => h) (Or.inl ⟨by rfl, ?_⟩) (by assumption) ?_
    rotate_left
    · (intro wx hSw; refine Eq.trans (run_load_row 23 (.tmp 5) (by rfl) (w.heap.size) (by rfl) _ _ _ _ (hSw.1) Tryz.underlying23 rfl (ist.trans (by rw [arrv_size]))) ?_; with_reducible rfl)
    (try simp only [Act.put, nA, nB, nC])
    refine wpAnyM_take 1 (v := ?_) rfl (by kernel_rfl) (fun _ _ _ h => h) (Or.inl ⟨by rfl, ?_⟩) (by assumption) ?_
    rotate_left
    · (intro wx hSw; refine Eq.trans (run_load_row 26 (.tmp 6) (by rfl) (w.heap.size + 1) (by rfl) _ _ _ _ (hSw.2.1) Tryz.underlying26 rfl (icov.trans (by rw [arrv_size]))) ?_; with_reducible rfl)
    (try simp only [Act.put, nA, nB, nC])
    refine wpAnyM_take 2 (v := ?_) rfl (by kernel_rfl) (fun _ _ _ h => h) (Or.inl ⟨by rfl, ?_⟩) (by assumption) ?_
    rotate_left
    · (intro wx hSw; obtain ⟨⟨c0, c1, c2⟩, _⟩ := hSw.2.2.c; go_simp; (try with_reducible rfl))
    (try simp only [Act.put, nA, nB, nC])
    refine wpAnyM_oneS 3 rfl (by kernel_rfl) (fun K hK => ?_)
    go_simp; rw [if_pos (arrv_size _ _), run_storeCells_row _ S6.drew]; go_simp; have T6 : Blk (w6.drew.setRow (w.heap.size + 1 + 1 + 1) (arrv 24 KK)) (w.heap.size + 1 + 1 + 1 + 1) 26 300 (fun _ => 0) := H6.out.r1.drew.setRow_other _ (by omega)
    clear hHeld
    refine hK.out _ _ ?_ (fun hHeld => ?_)
    · exact ⟨H6.out.s.drew.setRow_other _ (by omega), H6.out.p.drew.setRow_other _ (by omega), Q6.out.row _ (by omega)⟩
    clear hK K
    (try simp only [Act.put, nA, nB, nC])
    refine wpAnyM_oneS 4 rfl (by kernel_rfl) (fun K hK => ?_)
    go_simp; rw [if_pos (arrv_size _ _), run_storeCells_row _ T6]; go_simp; have V6 : Res ((w6.drew.setRow (w.heap.size + 1 + 1 + 1) (arrv 24 KK)).setRow (w.heap.size + 1 + 1 + 1 + 1) (arrv 300 PP)) (w.heap.size + 1 + 1 + 1 + 1 + 1) false 0 0 := (H6.out.r2.row _ (by omega)).row _ (by omega); obtain ⟨⟨v0, v1, v2⟩, y0, y1, y2⟩ := V6.c
    clear hHeld
    refine hK.out _ _ ?_ (fun hHeld => ?_)
    · exact ⟨(H6.out.s.drew.setRow_other _ (by omega)).setRow_other _ (by omega), (H6.out.p.drew.setRow_other _ (by omega)).setRow_other _ (by omega), (Q6.out.row _ (by omega)).row _ (by omega)⟩
    clear hK K
    (try simp only [Act.put, nA, nB, nC])
    refine wpAnyM_one 5 rfl (by kernel_rfl) (fun K hK => ?_)
    go_simp
    refine hK.out _ _ (.inl (by kernel_rfl)) (fun _ => ?_)
    clear hK K
    (try simp only [Act.put, nA, nB, nC])
    refine wpAnyM_done (by kernel_rfl) ?_ _
    have X0 : Blk ((w6.drew.setRow (w.heap.size + 1 + 1 + 1) (arrv 24 KK)).setRow (w.heap.size + 1 + 1 + 1 + 1) (arrv 300 PP)) (w.heap.size + 1 + 1 + 1) 23 24 KK := (S6.drew.setRow KK).setRow_other _ (by omega)
    have X1 : Blk ((w6.drew.setRow (w.heap.size + 1 + 1 + 1) (arrv 24 KK)).setRow (w.heap.size + 1 + 1 + 1 + 1) (arrv 300 PP)) (w.heap.size + 1 + 1 + 1 + 1) 26 300 PP := T6.setRow PP
    have XU : Upd c H2 w ((w6.drew.setRow (w.heap.size + 1 + 1 + 1) (arrv 24 KK)).setRow (w.heap.size + 1 + 1 + 1 + 1) (arrv 300 PP)) := H6.out.upd.drew.then' (below_row (below_row (Below.refl _ _) (by omega) _) (by omega) _)
    generalize (w6.drew.setRow (w.heap.size + 1 + 1 + 1) (arrv 24 KK)).setRow (w.heap.size + 1 + 1 + 1 + 1) (arrv 300 PP) = w7 at *
    have Y0 := ((X0.other (a := ⟨w.heap.size + 1 + 1 + 1 + 1 + 1, 0, none⟩) (by simp) (.bool false)).other (a := ⟨w.heap.size + 1 + 1 + 1 + 1 + 1, 1, none⟩) (by simp) (.int .i64 YV)).other (a := ⟨w.heap.size + 1 + 1 + 1 + 1 + 1, 2, none⟩) (by simp) (.int .i64 SV)
    have Y1 := ((X1.other (a := ⟨w.heap.size + 1 + 1 + 1 + 1 + 1, 0, none⟩) (by simp) (.bool false)).other (a := ⟨w.heap.size + 1 + 1 + 1 + 1 + 1, 1, none⟩) (by simp) (.int .i64 YV)).other (a := ⟨w.heap.size + 1 + 1 + 1 + 1 + 1, 2, none⟩) (by simp) (.int .i64 SV)
    have Y2 := V6.set3 false YV SV
    have YU := ((XU.setCell (p := ⟨w.heap.size + 1 + 1 + 1 + 1 + 1, 0, none⟩) (by simp; omega) (.bool false)).setCell (p := ⟨w.heap.size + 1 + 1 + 1 + 1 + 1, 1, none⟩) (by simp; omega) (.int .i64 YV)).setCell (p := ⟨w.heap.size + 1 + 1 + 1 + 1 + 1, 2, none⟩) (by simp; omega) (.int .i64 SV)
    go_wp2_with fail
    refine bodyPost_ret_by (results_rows3 Tryz.results5 _ _ (w.heap.size + 1 + 1 + 1) (w.heap.size + 1 + 1 + 1 + 1) (w.heap.size + 1 + 1 + 1 + 1 + 1) 23 26 39 (arrv 24 KK) (arrv 300 PP) (res3 false YV SV) (0, 0) (0, 0) (0, 0) _ _ _ rfl Y0 Tryz.underlying23 rfl (ist.trans (by rw [arrv_size])) rfl Y1 Tryz.underlying26 rfl (icov.trans (by rw [arrv_size])) rfl Y2 Tryz.underlying39 rfl (ire.trans rfl)) rfl ⟨?_, ?_⟩
    · rw [E.out.1, E.out.2.1, E.out.2.2.1, E.out.2.2.2.1]
    · rw [E.out.2.2.2.2]; exact YU
end Go.Proofs.YtiajjiphknlldaaGreat
/- fuse.One (3): the walk, where the number is taken. -/
namespace Go.Proofs.YtiajjiphknlldaaGreat
open Go.RowKit
set_option maxRecDepth 100000
theorem FoR.other {c : Addr} {h : Bool} {S P O : Nat → Int} {w wr : World} (r : FoR c h S P O w wr) {b o : Nat} (hb : w.heap.size + 1 + 1 + 1 + 1 + 1 < b) (v : Value) : FoR c h S P O w (wr.setCell ⟨b, o, none⟩ v) :=
  ⟨r.upd.setCell (by simp; omega) _, r.s.other (by simp; omega) _, r.p.other (by simp; omega) _, r.o.other (by simp; omega) _, r.r0.other (by simp; omega) _, r.r1.other (by simp; omega) _, r.r2.other (by simp; omega) _⟩
set_option maxHeartbeats 8000000 in
theorem fuone_yes (c : Addr) (h : Bool) (S P O : Nat → Int) (w : World) (hc : w.cell? c = some (.bool h)) (hf : w.frozen? c = false) (hO : -9223372036854775808 ≤ O 26 ∧ O 26 ≤ 9223372036854775807) (hL : foL P O = true) :
    Calls Tryz.prog 5 #[.pointer (some c), .agg (arrv 24 S), .agg (arrv 300 P), .agg (arrv 27 O)] w fun e w' =>
      e = .returned (.tuple #[.agg (arrv 24 (foA S P O)), .agg (arrv 300 (foQ P O)), .agg (res3 true (foY O) (foS P O))]) ∧ Upd c (h || foTH S P O) w w' := by
  have hcb := World.block_lt_of_cell? w c hc
  have R0 := fo_start c h S P O w hc
  have HC := Lib.hid hc
  have HF := Lib.hid hf
  have HL := Lib.hid hL
  have HO := Lib.hid hO
  clear hc hf hL hO
  go_enter Tryz.func5, Tryz.ntmps5
  go_upto_region 1 with fail
  generalize ((((((w.alloc (.cells (arrv 24 S) 23)).alloc (.cells (arrv 300 P) 26)).alloc (.cells (arrv 27 O) 29)).alloc (.cells #[.int .i64 0, .int .i64 0, .int .i64 0, .int .i64 0, .int .i64 0, .int .i64 0, .int .i64 0, .int .i64 0, .int .i64 0, .int .i64 0, .int .i64 0, .int .i64 0, .int .i64 0, .int .i64 0, .int .i64 0, .int .i64 0, .int .i64 0, .int .i64 0, .int .i64 0, .int .i64 0, .int .i64 0, .int .i64 0, .int .i64 0, .int .i64 0] 23)).alloc (.cells Tryz.zeroCells26 26)).alloc (.cells #[.bool false, .int .i64 0, .int .i64 0] 39)) = W0 at *
  have HS := Lib.hid R0.drew
  clear R0
  go_cut [] from 16 to 21 (fun wx => Hid (FoR c (h || keepH S || condH P) (keepF S) (condF P) O w wx))
  case first =>
    refine wp_region_M (fun w' => True) 7 (by kernel_rfl) ?_ (fun hHeld => ?_)
    · trivial
    refine wpAnyM_take 0 (v := ?_) rfl (by kernel_rfl) (fun _ _ _ h => h) (Or.inl ⟨by rfl, ?_⟩) (by assumption) ?_
    rotate_left
    · (intro wx hSw; (try dsimp only at hSw); go_simp; (try with_reducible rfl))
    (try simp only [Act.put, nA, nB, nC])
    refine wpAnyM_take 3 (v := ?_) rfl (by kernel_rfl) (fun _ _ _ h => h) (Or.inl ⟨by rfl, ?_⟩) (by assumption) ?_
    rotate_left
    · (intro wx hSw; (try dsimp only at hSw); go_simp; (try with_reducible rfl))
    (try simp only [Act.put, nA, nB, nC])
    refine wpAnyM_twoS 1 4 rfl rfl (by kernel_rfl) (fun K hK => ?_) (fun K hK => ?_)
    · refine if_pos_of (by rfl) (wp_of_val (run_load_row 23 (.tmp 5) (by rfl) w.heap.size (by rfl) _ _ _ _ HS.out.s Tryz.underlying23 rfl (ist.trans (by rw [arrv_size]))) ?_); simp only [Act.put, List.setIfInBounds_toArray, List.set_cons_zero, List.set_cons_succ]
      clear hHeld
      refine hK.out _ _ ?_ (fun hHeld => ?_)
      · trivial
      clear hK K
      (try simp only [Act.put, nA, nB, nC])
      refine wpAnyM_twoS 2 4 rfl rfl (by kernel_rfl) (fun K hK => ?_) (fun K hK => ?_)
      · go_simp
        (refine (keep_any c h S _ (HS.out.upd.cellc HC.out) ((HS.out.upd.frozen hcb).trans HF.out)).mono ?_); rintro e w1 ⟨rfl, hu1⟩; have HS2 := Lib.hid (HS.out.upd' hcb hu1); clear HS; have HS := HS2; clear HS2 hu1
        (try dsimp only)
        (try simp only [Act.put, nA, nB, nC])
        clear hHeld
        refine hK.out _ _ ?_ (fun hHeld => ?_)
        · trivial
        clear hK K
        (try simp only [Act.put, nA, nB, nC])
        refine wpAnyM_oneS 4 rfl (by kernel_rfl) (fun K hK => ?_)
        refine if_pos_of (by rfl) (wp_of_val (run_load_row 26 (.tmp 6) (by rfl) (w.heap.size + 1) (by rfl) _ _ _ _ HS.out.p Tryz.underlying26 rfl (icov.trans (by rw [arrv_size]))) ?_); simp only [Act.put, List.setIfInBounds_toArray, List.set_cons_zero, List.set_cons_succ]
        clear hHeld
        refine hK.out _ _ ?_ (fun hHeld => ?_)
        · trivial
        clear hK K
        (try simp only [Act.put, nA, nB, nC])
        refine wpAnyM_oneS 5 rfl (by kernel_rfl) (fun K hK => ?_)
        go_simp
        (refine (cond_any c _ P _ (HS.out.upd.cellc HC.out) ((HS.out.upd.frozen hcb).trans HF.out)).mono ?_); rintro e w2 ⟨rfl, hu2⟩; have HS2 := Lib.hid (HS.out.upd' hcb hu2); clear HS; have HS := HS2; clear HS2 hu2; have B6 := HS.out.s; have B7 := HS.out.p
        (try dsimp only)
        (try simp only [Act.put, nA, nB, nC])
        clear hHeld
        refine hK.out _ _ ?_ (fun hHeld => ?_)
        · trivial
        clear hK K
        (try simp only [Act.put, nA, nB, nC])
        refine wpAnyM_oneS 6 rfl (by kernel_rfl) (fun K hK => ?_)
        go_simp; rw [if_pos (arrv_size _ _), run_storeCells_row _ B6]; go_simp; have HS2 := Lib.hid (HS.out.rowS (keepF S)); clear HS; have HS := HS2; clear HS2 B6 B7; have B7 := HS.out.p
        clear hHeld
        refine hK.out _ _ ?_ (fun hHeld => ?_)
        · trivial
        clear hK K
        (try simp only [Act.put, nA, nB, nC])
        refine wpAnyM_one 7 rfl (by kernel_rfl) (fun K hK => ?_)
        go_simp; rw [if_pos (arrv_size _ _), run_storeCells_row _ B7]; go_simp; have HS2 := Lib.hid (HS.out.rowP (condF P)); clear HS; have HS := HS2; clear HS2 B7
        refine hK.out _ _ (.inl (by kernel_rfl)) (fun _ => ?_)
        clear hK K
        (try simp only [Act.put, nA, nB, nC])
        refine wpAnyM_done (by kernel_rfl) ?_ _
        (go_wp2_with fail; go_meet; exact HS)
      · refine if_pos_of (by rfl) (wp_of_val (run_load_row 26 (.tmp 6) (by rfl) (w.heap.size + 1) (by rfl) _ _ _ _ HS.out.p Tryz.underlying26 rfl (icov.trans (by rw [arrv_size]))) ?_); simp only [Act.put, List.setIfInBounds_toArray, List.set_cons_zero, List.set_cons_succ]
        clear hHeld
        refine hK.out _ _ ?_ (fun hHeld => ?_)
        · trivial
        clear hK K
        (try simp only [Act.put, nA, nB, nC])
        refine wpAnyM_oneS 2 rfl (by kernel_rfl) (fun K hK => ?_)
        go_simp
        (refine (keep_any c h S _ (HS.out.upd.cellc HC.out) ((HS.out.upd.frozen hcb).trans HF.out)).mono ?_); rintro e w1 ⟨rfl, hu1⟩; have HS2 := Lib.hid (HS.out.upd' hcb hu1); clear HS; have HS := HS2; clear HS2 hu1
        (try dsimp only)
        (try simp only [Act.put, nA, nB, nC])
        clear hHeld
        refine hK.out _ _ ?_ (fun hHeld => ?_)
        · trivial
        clear hK K
        (try simp only [Act.put, nA, nB, nC])
        refine wpAnyM_oneS 5 rfl (by kernel_rfl) (fun K hK => ?_)
        go_simp
        (refine (cond_any c _ P _ (HS.out.upd.cellc HC.out) ((HS.out.upd.frozen hcb).trans HF.out)).mono ?_); rintro e w2 ⟨rfl, hu2⟩; have HS2 := Lib.hid (HS.out.upd' hcb hu2); clear HS; have HS := HS2; clear HS2 hu2; have B6 := HS.out.s; have B7 := HS.out.p
        (try dsimp only)
        (try simp only [Act.put, nA, nB, nC])
        clear hHeld
        refine hK.out _ _ ?_ (fun hHeld => ?_)
        · trivial
        clear hK K
        (try simp only [Act.put, nA, nB, nC])
        refine wpAnyM_oneS 6 rfl (by kernel_rfl) (fun K hK => ?_)
        go_simp; rw [if_pos (arrv_size _ _), run_storeCells_row _ B6]; go_simp; have HS2 := Lib.hid (HS.out.rowS (keepF S)); clear HS; have HS := HS2; clear HS2 B6 B7; have B7 := HS.out.p
        clear hHeld
        refine hK.out _ _ ?_ (fun hHeld => ?_)
        · trivial
        clear hK K
        (try simp only [Act.put, nA, nB, nC])
        refine wpAnyM_one 7 rfl (by kernel_rfl) (fun K hK => ?_)
        go_simp; rw [if_pos (arrv_size _ _), run_storeCells_row _ B7]; go_simp; have HS2 := Lib.hid (HS.out.rowP (condF P)); clear HS; have HS := HS2; clear HS2 B7
        refine hK.out _ _ (.inl (by kernel_rfl)) (fun _ => ?_)
        clear hK K
        (try simp only [Act.put, nA, nB, nC])
        refine wpAnyM_done (by kernel_rfl) ?_ _
        (go_wp2_with fail; go_meet; exact HS)
    · refine if_pos_of (by rfl) (wp_of_val (run_load_row 26 (.tmp 6) (by rfl) (w.heap.size + 1) (by rfl) _ _ _ _ HS.out.p Tryz.underlying26 rfl (icov.trans (by rw [arrv_size]))) ?_); simp only [Act.put, List.setIfInBounds_toArray, List.set_cons_zero, List.set_cons_succ]
      clear hHeld
      refine hK.out _ _ ?_ (fun hHeld => ?_)
      · trivial
      clear hK K
      (try simp only [Act.put, nA, nB, nC])
      refine wpAnyM_oneS 1 rfl (by kernel_rfl) (fun K hK => ?_)
      refine if_pos_of (by rfl) (wp_of_val (run_load_row 23 (.tmp 5) (by rfl) w.heap.size (by rfl) _ _ _ _ HS.out.s Tryz.underlying23 rfl (ist.trans (by rw [arrv_size]))) ?_); simp only [Act.put, List.setIfInBounds_toArray, List.set_cons_zero, List.set_cons_succ]
      clear hHeld
      refine hK.out _ _ ?_ (fun hHeld => ?_)
      · trivial
      clear hK K
      (try simp only [Act.put, nA, nB, nC])
      refine wpAnyM_oneS 2 rfl (by kernel_rfl) (fun K hK => ?_)
      go_simp
      (refine (keep_any c h S _ (HS.out.upd.cellc HC.out) ((HS.out.upd.frozen hcb).trans HF.out)).mono ?_); rintro e w1 ⟨rfl, hu1⟩; have HS2 := Lib.hid (HS.out.upd' hcb hu1); clear HS; have HS := HS2; clear HS2 hu1
      (try dsimp only)
      (try simp only [Act.put, nA, nB, nC])
      clear hHeld
      refine hK.out _ _ ?_ (fun hHeld => ?_)
      · trivial
      clear hK K
      (try simp only [Act.put, nA, nB, nC])
      refine wpAnyM_oneS 5 rfl (by kernel_rfl) (fun K hK => ?_)
      go_simp
      (refine (cond_any c _ P _ (HS.out.upd.cellc HC.out) ((HS.out.upd.frozen hcb).trans HF.out)).mono ?_); rintro e w2 ⟨rfl, hu2⟩; have HS2 := Lib.hid (HS.out.upd' hcb hu2); clear HS; have HS := HS2; clear HS2 hu2; have B6 := HS.out.s; have B7 := HS.out.p
      (try dsimp only)
      (try simp only [Act.put, nA, nB, nC])
      clear hHeld
      refine hK.out _ _ ?_ (fun hHeld => ?_)
      · trivial
      clear hK K
      (try simp only [Act.put, nA, nB, nC])
      refine wpAnyM_oneS 6 rfl (by kernel_rfl) (fun K hK => ?_)
      go_simp; rw [if_pos (arrv_size _ _), run_storeCells_row _ B6]; go_simp; have HS2 := Lib.hid (HS.out.rowS (keepF S)); clear HS; have HS := HS2; clear HS2 B6 B7; have B7 := HS.out.p
      clear hHeld
      refine hK.out _ _ ?_ (fun hHeld => ?_)
      · trivial
      clear hK K
      (try simp only [Act.put, nA, nB, nC])
      refine wpAnyM_one 7 rfl (by kernel_rfl) (fun K hK => ?_)
      go_simp; rw [if_pos (arrv_size _ _), run_storeCells_row _ B7]; go_simp; have HS2 := Lib.hid (HS.out.rowP (condF P)); clear HS; have HS := HS2; clear HS2 B7
      refine hK.out _ _ (.inl (by kernel_rfl)) (fun _ => ?_)
      clear hK K
      (try simp only [Act.put, nA, nB, nC])
      refine wpAnyM_done (by kernel_rfl) ?_ _
      (go_wp2_with fail; go_meet; exact HS)
  case rest =>
    clear HS
    have HS := hcut
    clear hcut
    rename World => wx
    have o24 := HS.out.o.cell (i := 24) (by decide)
    have SA := Lib.hid (sat_any c _ (O 24) _ (HS.out.upd.cellc HC.out) ((HS.out.upd.frozen hcb).trans HF.out))
    go_upto_region 3 with (go_at_call 15; (refine SA.out.mono ?_); rintro e w3 ⟨rfl, hw3⟩; have U3 := (Upd.set c (h || keepH S || condH P || satH (O 24)) wx).then (by rw [hw3]; exact Below.refl _ _); have H3 := Lib.hid (HS.out.upd' hcb U3); clear U3 hw3)
    obtain ⟨PP, hPP⟩ : ∃ x, condF P = x := ⟨_, rfl⟩
    obtain ⟨KK, hKK⟩ : ∃ x, keepF S = x := ⟨_, rfl⟩
    obtain ⟨YV, hYV⟩ : ∃ x, satV (O 24) = x := ⟨_, rfl⟩
    obtain ⟨SV, hSV⟩ : ∃ x, updS PP O (O 25) = x := ⟨_, rfl⟩
    obtain ⟨QQ, hQQ⟩ : ∃ x, updP PP O (O 25) = x := ⟨_, rfl⟩
    obtain ⟨GG, hGG⟩ : ∃ x, updG PP O (O 25) = x := ⟨_, rfl⟩
    obtain ⟨GN, hGN⟩ : ∃ x, gnF GG YV 24 = x := ⟨_, rfl⟩
    obtain ⟨AA, hAA⟩ : ∃ x, addNF KK GN 1 = x := ⟨_, rfl⟩
    obtain ⟨H1, hH1⟩ : ∃ x, (h || keepH S || condH P || satH (O 24)) = x := ⟨_, rfl⟩
    obtain ⟨H2, hH2⟩ : ∃ x, (H1 || lkH PP O (O 25)) = x := ⟨_, rfl⟩
    obtain ⟨H3', hH3⟩ : ∃ x, (H2 || updH PP O (O 25)) = x := ⟨_, rfl⟩
    obtain ⟨H4', hH4⟩ : ∃ x, (H3' || orB (gnB GG YV) 24) = x := ⟨_, rfl⟩
    obtain ⟨H5', hH5⟩ : ∃ x, (H4' || addNH KK GN 1) = x := ⟨_, rfl⟩
    have eG : foG P O = GN := by unfold foG foY; rw [hPP, hGG, hYV]; exact hGN
    have E : Hid (foY O = YV ∧ foS P O = SV ∧ foA S P O = AA ∧ foQ P O = QQ ∧ (h || foTH S P O) = H5') := by
      refine Lib.hid ⟨hYV, by unfold foS; rw [hPP]; exact hSV, by unfold foA; rw [eG, hKK]; exact hAA, by unfold foQ; rw [hPP]; exact hQQ, ?_⟩
      unfold foTH; rw [eG]; unfold foH foY; rw [← hH5, ← hH4, ← hH3, ← hH2, ← hH1, hPP, hGG, hKK, hYV]; simp only [Bool.or_assoc]
    have HQ := Lib.hid (And.intro hQQ (And.intro hGG (And.intro hGN hAA)))
    have HH := Lib.hid (And.intro hH3 (And.intro hH4 hH5))
    have HSV := Lib.hid hSV
    have LK : Hid (likB YV SV (O 26) = true) := by
      have := HL.out
      unfold foL at this
      rw [E.out.1, E.out.2.1] at this
      exact Lib.hid this
    rw [hKK, hPP, hH1] at H3
    rw [hYV]
    have P3 := H3.out.p
    have O3 := H3.out.o
    have o25 := O3.cell (i := 25) (by decide)
    have IN := innov_any c H1 PP O (O 25) w3 (H3.out.upd.cellc HC.out) ((H3.out.upd.frozen hcb).trans HF.out)
    rw [hSV, hH2] at IN
    have IN := Lib.hid IN
    clear hPP hKK hYV hSV hH1 hH2 HS SA o24 HL hQQ hGG hGN hAA hH3 hH4 hH5 eG
    go_upto_region 4 with (first | (refine wpList_load_row rfl 26 _ rfl (w.heap.size + 1) rfl 26 _ (0, 0) _ (P3) Tryz.underlying26 rfl (icov.trans (by rw [arrv_size])) ?_) | (refine wpList_load_sub rfl 27 _ rfl (w.heap.size + 1 + 1) 0 24 rfl O3 (by decide) _ Tryz.underlying27 rfl irow ?_; rw [show (fun i => O (0 + i)) = O from by funext i; rw [Nat.zero_add]]) | (go_at_call 16; (refine IN.out.mono ?_); rintro e w4 ⟨rfl, hu4⟩; have H4 := Lib.hid (H3.out.upd' hcb hu4); clear hu4))
    have H5 : Hid (FoR c H2 KK PP O w (w4.alloc (.cells #[.bool false, .int .i64 YV, .int .i64 SV] 39))) := Lib.hid (H4.out.down ((Below.refl w4.heap.size w4).alloc (Nat.le_refl _) _))
    have Q5 : Hid (Res (w4.alloc (.cells #[.bool false, .int .i64 YV, .int .i64 SV] 39)) w4.heap.size false YV SV) := Lib.hid (Res.new w4 false YV SV)
    have hrb : w.heap.size + 1 + 1 + 1 + 1 + 1 < w4.heap.size := H4.out.r2.lt
    have HRB : Hid (∃ rb, w4.heap.size = rb) := Lib.hid ⟨_, rfl⟩
    obtain ⟨rb, hrb2⟩ := HRB.out
    rw [hrb2] at Q5 hrb ⊢
    generalize w4.alloc (.cells #[.bool false, .int .i64 YV, .int .i64 SV] 39) = w5 at *
    clear hrb2 HRB H4 H3 P3 O3 o25 IN
    obtain ⟨⟨q0, q1, q2⟩, _⟩ := Q5.out.c
    have o26 := H5.out.o.cell (i := 26) (by decide)
    have LI := likely_any YV SV (O 26) w5 HO.out.1 HO.out.2
    rw [LK.out] at LI
    have LI := Lib.hid LI
    go_upto_region 6 with (go_at_call 12; (refine LI.out.mono ?_); rintro e w6 ⟨rfl, hb6⟩; have H6 := Lib.hid (H5.out.down hb6); have Q6 := Lib.hid (Q5.out.below hb6); clear hb6)
    clear LI o26 q0 q1 q2 H5 Q5
    obtain ⟨⟨q0, q1, q2⟩, g0, g1, g2⟩ := Q6.out.c
    have H7 := Lib.hid (H6.out.other (o := 0) hrb (.bool true))
    have Q7 := Lib.hid (Q6.out.take true)
    go_upto_region 7 with fail
    generalize w6.setCell ⟨rb, 0, none⟩ (.bool true) = w7 at *
    clear q0 q1 q2 g0 g1 g2 H6 Q6
    have P7 := H7.out.p
    have O7 := H7.out.o
    have o25 := O7.cell (i := 25) (by decide)
    have UP := update_any c H2 PP O (O 25) w7 (H7.out.upd.cellc HC.out) ((H7.out.upd.frozen hcb).trans HF.out)
    rw [HQ.out.1, HQ.out.2.1, HSV.out, HH.out.1] at UP
    have UP := Lib.hid UP
    have hcr : c.block ≠ rb := by omega
    go_upto_region 8 with (first | (refine wpList_load_row rfl 26 _ rfl (w.heap.size + 1) rfl 26 _ (0, 0) _ (P7) Tryz.underlying26 rfl (icov.trans (by rw [arrv_size])) ?_) | (refine wpList_load_sub rfl 27 _ rfl (w.heap.size + 1 + 1) 0 24 rfl O7 (by decide) _ Tryz.underlying27 rfl irow ?_; rw [show (fun i => O (0 + i)) = O from by funext i; rw [Nat.zero_add]]) | (go_at_call 17; (refine UP.out.mono ?_); rintro e w8 ⟨rfl, hu8⟩; have H8 := Lib.hid (H7.out.upd' hcb hu8); have Q8 := Lib.hid (Q7.out.upd hu8 (Ne.symm hcr)); (have RA : Blk ((w8.alloc (.cells Tryz.zeroCells26 26)).alloc (.cells #[.int .i64 0, .int .i64 0, .int .i64 0, .int .i64 0, .int .i64 0, .int .i64 0, .int .i64 0, .int .i64 0, .int .i64 0, .int .i64 0, .int .i64 0, .int .i64 0, .int .i64 0, .int .i64 0, .int .i64 0, .int .i64 0, .int .i64 0, .int .i64 0, .int .i64 0, .int .i64 0, .int .i64 0, .int .i64 0, .int .i64 0, .int .i64 0] 27)) w8.heap.size 26 300 (fun _ => 0) := (by rw [zcov]; exact (Blk.new _ _ _ _).alloc _); have RB : Blk (((w8.alloc (.cells Tryz.zeroCells26 26)).alloc (.cells #[.int .i64 0, .int .i64 0, .int .i64 0, .int .i64 0, .int .i64 0, .int .i64 0, .int .i64 0, .int .i64 0, .int .i64 0, .int .i64 0, .int .i64 0, .int .i64 0, .int .i64 0, .int .i64 0, .int .i64 0, .int .i64 0, .int .i64 0, .int .i64 0, .int .i64 0, .int .i64 0, .int .i64 0, .int .i64 0, .int .i64 0, .int .i64 0] 27)).setRow w8.heap.size (arrv 300 (QQ))) (w8.heap.size + 1) 27 24 (fun _ => 0) := (by rw [zrow]; exact (Blk.new1 _ _ _ _ _).setRow_other _ (by omega))); clear hu8) | (refine wpList_store_row rfl 26 _ _ rfl (w8.heap.size) _ rfl rfl 26 _ (RA) (icov.trans (by rw [arrv_size])) (by rw [arrv_size, arrv_size]) (oneCell_arrv _ _) ?_) | (refine wpList_store_row rfl 27 _ _ rfl (w8.heap.size + 1) _ rfl rfl 27 _ (RB) (irow.trans (by rw [arrv_size])) (by rw [arrv_size, arrv_size]) (oneCell_arrv _ _) ?_))
    obtain ⟨w9, hw9⟩ : ∃ x, x = ((((w8.alloc (.cells Tryz.zeroCells26 26)).alloc (.cells #[.int .i64 0, .int .i64 0, .int .i64 0, .int .i64 0, .int .i64 0, .int .i64 0, .int .i64 0, .int .i64 0, .int .i64 0, .int .i64 0, .int .i64 0, .int .i64 0, .int .i64 0, .int .i64 0, .int .i64 0, .int .i64 0, .int .i64 0, .int .i64 0, .int .i64 0, .int .i64 0, .int .i64 0, .int .i64 0, .int .i64 0, .int .i64 0] 27)).setRow w8.heap.size (arrv 300 (QQ))).setRow (w8.heap.size + 1) (arrv 24 (GG))) := ⟨_, rfl⟩; rw [← hw9]; obtain ⟨N0, N1, NB⟩ := two_made _ _ hw9; clear hw9
    have H9 := Lib.hid (H8.out.down NB)
    have Q9 := Lib.hid (Q8.out.below NB)
    have hub : w.heap.size + 1 + 1 + 1 + 1 + 1 < w8.heap.size := H8.out.r2.lt
    obtain ⟨ub, hub2⟩ : ∃ x, w8.heap.size = x := ⟨_, rfl⟩
    rw [hub2] at N0 N1 hub ⊢
    have NN := Lib.hid (And.intro N0 N1)
    clear N0 N1 NB hub2 RA RB H8 Q8 H7 Q7 P7 O7 o25 UP
    have ZH := H9.out.r0
    refine wp_region_M (fun w' => Blk w' w.heap.size 23 24 KK ∧ Blk w' (ub + 1) 27 24 GG ∧ Blk w' ub 26 300 QQ ∧ Res w' rb true YV SV) 12 (by kernel_rfl) ?_ (fun hHeld => ?_)
    · exact ⟨H9.out.s.drew, NN.out.2.drew, NN.out.1.drew, Q9.out⟩
    refine wpAnyM_take 0 (v := ?_) rfl (by kernel_rfl) (fun _ _ _ h => h) (Or.inl ⟨by rfl, ?_⟩) (by assumption) ?_
    rotate_left
    · (intro wx hSw; (try dsimp only at hSw); go_simp; (try with_reducible rfl))
    (try simp only [Act.put, nA, nB, nC])
    refine wpAnyM_take 1 (v := ?_) rfl (by kernel_rfl) (fun _ _ _ h => h) (Or.inl ⟨by rfl, ?_⟩) (by assumption) ?_
    rotate_left
    · (intro wx hSw; refine Eq.trans (run_load_row 23 (.tmp 5) (by rfl) (w.heap.size) (by rfl) _ _ _ _ (hSw.1) Tryz.underlying23 rfl (ist.trans (by rw [arrv_size]))) ?_; with_reducible rfl)
    (try simp only [Act.put, nA, nB, nC])
    refine wpAnyM_take 2 (v := ?_) rfl (by kernel_rfl) (fun _ _ _ h => h) (Or.inl ⟨by rfl, ?_⟩) (by assumption) ?_
    rotate_left
    · (intro wx hSw; (try dsimp only at hSw); go_simp; (try with_reducible rfl))
    (try simp only [Act.put, nA, nB, nC])
    refine wpAnyM_take 3 (v := ?_) rfl (by kernel_rfl) (fun _ _ _ h => h) (Or.inl ⟨by rfl, ?_⟩) (by assumption) ?_
    rotate_left
    · (intro wx hSw; refine Eq.trans (run_load_row 27 (.tmp 14) (by rfl) (ub + 1) (by rfl) _ _ _ _ (hSw.2.1) Tryz.underlying27 rfl (irow.trans (by rw [arrv_size]))) ?_; with_reducible rfl)
    (try simp only [Act.put, nA, nB, nC])
    refine wpAnyM_take 4 (v := ?_) rfl (by kernel_rfl) (fun _ _ _ h => h) (Or.inl ⟨by rfl, ?_⟩) (by assumption) ?_
    rotate_left
    · (intro wx hSw; (try dsimp only at hSw); go_simp; (try with_reducible rfl))
    (try simp only [Act.put, nA, nB, nC])
    refine wpAnyM_take 8 (v := ?_) rfl (by kernel_rfl) (fun _ _ _ h => h) (Or.inl ⟨by rfl, ?_⟩) (by assumption) ?_
    rotate_left
    · (intro wx hSw; refine Eq.trans (run_load_row 26 (.tmp 13) (by rfl) (ub) (by rfl) _ _ _ _ (hSw.2.2.1) Tryz.underlying26 rfl (icov.trans (by rw [arrv_size]))) ?_; with_reducible rfl)
    (try simp only [Act.put, nA, nB, nC])
    refine wpAnyM_take 9 (v := ?_) rfl (by kernel_rfl) (fun _ _ _ h => h) (Or.inl ⟨by rfl, ?_⟩) (by assumption) ?_
    rotate_left
    · (intro wx hSw; obtain ⟨⟨c0, c1, c2⟩, _⟩ := hSw.2.2.2.c; go_simp; (try with_reducible rfl))
    (try simp only [Act.put, nA, nB, nC])
    refine wpAnyM_oneS 5 rfl (by kernel_rfl) (fun K hK => ?_)
    go_simp
    (refine (gain_any c _ GG YV _ (H9.out.drew.upd.cellc HC.out) ((H9.out.drew.upd.frozen hcb).trans HF.out)).mono ?_); rintro e w10 ⟨rfl, hu10⟩; (rw [HQ.out.2.2.1]); (rw [HH.out.2.1] at hu10); have HA := Lib.hid (And.intro (H9.out.drew.upd' hcb hu10) (And.intro (NN.out.2.drew.upd hu10 (by omega)) (And.intro (NN.out.1.drew.upd hu10 (by omega)) (Q9.out.upd (w := w9.drew) hu10 (Ne.symm hcr))))); clear hu10
    (try dsimp only)
    (try simp only [Act.put, nA, nB, nC])
    clear hHeld
    refine hK.out _ _ ?_ (fun hHeld => ?_)
    · exact ⟨HA.out.1.s, HA.out.2.1, HA.out.2.2.1, HA.out.2.2.2⟩
    clear hK K
    (try simp only [Act.put, nA, nB, nC])
    refine wpAnyM_oneS 6 rfl (by kernel_rfl) (fun K hK => ?_)
    refine if_pos_of (by rfl) (wp_bsl24 (.tmp 62) rfl rfl ?_); have hBB := (Below.refl w10.heap.size w10).alloc (Nat.le_refl _) (.cells (arrv 24 GN) 22); have HB := Lib.hid (And.intro (HA.out.1.down hBB) (And.intro (HA.out.2.1.below hBB) (And.intro (HA.out.2.2.1.below hBB) (HA.out.2.2.2.below hBB)))); have DB : Hid (Blk (w10.alloc (.cells (arrv 24 GN) 22)) w10.heap.size 22 (24 * 1) GN) := Lib.hid (Blk.new _ _ 24 _); clear hBB
    clear hHeld
    refine hK.out _ _ ?_ (fun hHeld => ?_)
    · exact ⟨HB.out.1.s, HB.out.2.1, HB.out.2.2.1, HB.out.2.2.2⟩
    clear hK K
    (try simp only [Act.put, nA, nB, nC])
    refine wpAnyM_oneS 7 rfl (by kernel_rfl) (fun K hK => ?_)
    go_simp
    (refine (sadd_any c _ KK GN w10.heap.size 1 1 _ (HB.out.1.upd.cellc HC.out) ((HB.out.1.upd.frozen hcb).trans HF.out) (by decide) (by decide) DB.out).mono ?_); rintro e w11 ⟨rfl, hu11⟩; (rw [HQ.out.2.2.2]); (rw [HH.out.2.2] at hu11); have HD := Lib.hid (And.intro (HB.out.1.upd' hcb hu11) (And.intro (HB.out.2.1.upd hu11 (by omega)) (And.intro (HB.out.2.2.1.upd hu11 (by omega)) (HB.out.2.2.2.upd hu11 (Ne.symm hcr))))); have S6 := HD.out.1.r0; clear hu11
    (try dsimp only)
    (try simp only [Act.put, nA, nB, nC])
    clear hHeld
    refine hK.out _ _ ?_ (fun hHeld => ?_)
    · exact ⟨HD.out.1.s, HD.out.2.1, HD.out.2.2.1, HD.out.2.2.2⟩
    clear hK K
    (try simp only [Act.put, nA, nB, nC])
    refine wpAnyM_oneS 10 rfl (by kernel_rfl) (fun K hK => ?_)
    go_simp; rw [if_pos (arrv_size _ _), run_storeCells_row _ S6]; go_simp; have T6 : Blk (w11.setRow (w.heap.size + 1 + 1 + 1) (arrv 24 AA)) (w.heap.size + 1 + 1 + 1 + 1) 26 300 (fun _ => 0) := HD.out.1.r1.setRow_other _ (by omega)
    clear hHeld
    refine hK.out _ _ ?_ (fun hHeld => ?_)
    · exact ⟨HD.out.1.s.setRow_other _ (by omega), HD.out.2.1.setRow_other _ (by omega), HD.out.2.2.1.setRow_other _ (by omega), HD.out.2.2.2.row _ (by omega)⟩
    clear hK K
    (try simp only [Act.put, nA, nB, nC])
    refine wpAnyM_oneS 11 rfl (by kernel_rfl) (fun K hK => ?_)
    go_simp; rw [if_pos (arrv_size _ _), run_storeCells_row _ T6]; go_simp; have V6 : Res ((w11.setRow (w.heap.size + 1 + 1 + 1) (arrv 24 AA)).setRow (w.heap.size + 1 + 1 + 1 + 1) (arrv 300 QQ)) (w.heap.size + 1 + 1 + 1 + 1 + 1) false 0 0 := (HD.out.1.r2.row _ (by omega)).row _ (by omega); obtain ⟨⟨v0, v1, v2⟩, y0, y1, y2⟩ := V6.c
    clear hHeld
    refine hK.out _ _ ?_ (fun hHeld => ?_)
    · exact ⟨(HD.out.1.s.setRow_other _ (by omega)).setRow_other _ (by omega), (HD.out.2.1.setRow_other _ (by omega)).setRow_other _ (by omega), (HD.out.2.2.1.setRow_other _ (by omega)).setRow_other _ (by omega), (HD.out.2.2.2.row _ (by omega)).row _ (by omega)⟩
    clear hK K
    (try simp only [Act.put, nA, nB, nC])
    refine wpAnyM_one 12 rfl (by kernel_rfl) (fun K hK => ?_)
    go_simp
    refine hK.out _ _ (.inl (by kernel_rfl)) (fun _ => ?_)
    clear hK K
    (try simp only [Act.put, nA, nB, nC])
    refine wpAnyM_done (by kernel_rfl) ?_ _
    have X0 : Blk ((w11.setRow (w.heap.size + 1 + 1 + 1) (arrv 24 AA)).setRow (w.heap.size + 1 + 1 + 1 + 1) (arrv 300 QQ)) (w.heap.size + 1 + 1 + 1) 23 24 AA := (S6.setRow AA).setRow_other _ (by omega)
    have X1 : Blk ((w11.setRow (w.heap.size + 1 + 1 + 1) (arrv 24 AA)).setRow (w.heap.size + 1 + 1 + 1 + 1) (arrv 300 QQ)) (w.heap.size + 1 + 1 + 1 + 1) 26 300 QQ := T6.setRow QQ
    have XU : Upd c H5' w ((w11.setRow (w.heap.size + 1 + 1 + 1) (arrv 24 AA)).setRow (w.heap.size + 1 + 1 + 1 + 1) (arrv 300 QQ)) := HD.out.1.upd.then' (below_row (below_row (Below.refl _ _) (by omega) _) (by omega) _)
    generalize (w11.setRow (w.heap.size + 1 + 1 + 1) (arrv 24 AA)).setRow (w.heap.size + 1 + 1 + 1 + 1) (arrv 300 QQ) = w12 at *
    have Y0 := ((X0.other (a := ⟨w.heap.size + 1 + 1 + 1 + 1 + 1, 0, none⟩) (by simp) (.bool true)).other (a := ⟨w.heap.size + 1 + 1 + 1 + 1 + 1, 1, none⟩) (by simp) (.int .i64 YV)).other (a := ⟨w.heap.size + 1 + 1 + 1 + 1 + 1, 2, none⟩) (by simp) (.int .i64 SV)
    have Y1 := ((X1.other (a := ⟨w.heap.size + 1 + 1 + 1 + 1 + 1, 0, none⟩) (by simp) (.bool true)).other (a := ⟨w.heap.size + 1 + 1 + 1 + 1 + 1, 1, none⟩) (by simp) (.int .i64 YV)).other (a := ⟨w.heap.size + 1 + 1 + 1 + 1 + 1, 2, none⟩) (by simp) (.int .i64 SV)
    have Y2 := V6.set3 true YV SV
    have YU := ((XU.setCell (p := ⟨w.heap.size + 1 + 1 + 1 + 1 + 1, 0, none⟩) (by simp; omega) (.bool true)).setCell (p := ⟨w.heap.size + 1 + 1 + 1 + 1 + 1, 1, none⟩) (by simp; omega) (.int .i64 YV)).setCell (p := ⟨w.heap.size + 1 + 1 + 1 + 1 + 1, 2, none⟩) (by simp; omega) (.int .i64 SV)
    go_wp2_with fail
    refine bodyPost_ret_by (results_rows3 Tryz.results5 _ _ (w.heap.size + 1 + 1 + 1) (w.heap.size + 1 + 1 + 1 + 1) (w.heap.size + 1 + 1 + 1 + 1 + 1) 23 26 39 (arrv 24 AA) (arrv 300 QQ) (res3 true YV SV) (0, 0) (0, 0) (0, 0) _ _ _ rfl Y0 Tryz.underlying23 rfl (ist.trans (by rw [arrv_size])) rfl Y1 Tryz.underlying26 rfl (icov.trans (by rw [arrv_size])) rfl Y2 Tryz.underlying39 rfl (ire.trans rfl)) rfl ⟨?_, ?_⟩
    · rw [E.out.1, E.out.2.1, E.out.2.2.1, E.out.2.2.2.1]
    · rw [E.out.2.2.2.2]; exact YU
end Go.Proofs.YtiajjiphknlldaaGreat
/- fuse.One (4): both ways; fuse.Count. -/
namespace Go.Proofs.YtiajjiphknlldaaGreat
open Go.RowKit
set_option maxRecDepth 100000
def foSt (S P O : Nat → Int) : Nat → Int := if foL P O = true then foA S P O else keepF S
def foPt (P O : Nat → Int) : Nat → Int := if foL P O = true then foQ P O else condF P
def foFl (S P O : Nat → Int) : Bool := if foL P O = true then foTH S P O else foH S P O
theorem fuone_any (c : Addr) (h : Bool) (S P O : Nat → Int) (w : World) (hc : w.cell? c = some (.bool h)) (hf : w.frozen? c = false) (hO : -9223372036854775808 ≤ O 26 ∧ O 26 ≤ 9223372036854775807) :
    Calls Tryz.prog 5 #[.pointer (some c), .agg (arrv 24 S), .agg (arrv 300 P), .agg (arrv 27 O)] w fun e w' =>
      e = .returned (.tuple #[.agg (arrv 24 (foSt S P O)), .agg (arrv 300 (foPt P O)), .agg (res3 (foL P O) (foY O) (foS P O))]) ∧ Upd c (h || foFl S P O) w w' := by
  by_cases hL : foL P O = true
  · have e1 : foSt S P O = foA S P O := by unfold foSt; rw [if_pos hL]
    have e2 : foPt P O = foQ P O := by unfold foPt; rw [if_pos hL]
    have e3 : foFl S P O = foTH S P O := by unfold foFl; rw [if_pos hL]
    rw [e1, e2, e3, hL]
    exact fuone_yes c h S P O w hc hf hO hL
  · have hL2 : foL P O = false := by simpa using hL
    have e1 : foSt S P O = keepF S := by unfold foSt; rw [if_neg hL]
    have e2 : foPt P O = condF P := by unfold foPt; rw [if_neg hL]
    have e3 : foFl S P O = foH S P O := by unfold foFl; rw [if_neg hL]
    rw [e1, e2, e3, hL2]
    exact fuone_no c h S P O w hc hf hO hL2
/-- All's states and factors behind the first n numbers. O: numbers of 27 each. -/
def rowO (O : Nat → Int) (n : Nat) : Nat → Int := fun i => O (n * 27 + i)
def alN (S P O : Nat → Int) : Nat → (Nat → Int) × (Nat → Int) | 0 => (S, P) | n + 1 => (foSt (alN S P O n).1 (alN S P O n).2 (rowO O n), foPt (alN S P O n).2 (rowO O n))
def alH (S P O : Nat → Int) : Nat → Bool | 0 => false | n + 1 => alH S P O n || foFl (alN S P O n).1 (alN S P O n).2 (rowO O n)
def alT (S P O : Nat → Int) (n : Nat) : Bool := foL (alN S P O n).2 (rowO O n)
def alY (O : Nat → Int) (n : Nat) : Int := foY (rowO O n)
def alV (S P O : Nat → Int) (n : Nat) : Int := foS (alN S P O n).2 (rowO O n)
/-- The cells of n results. -/
def rcells (n : Nat) (t : Nat → Bool) (y s : Nat → Int) : List Value := (List.range n).flatMap fun i => [.bool (t i), .int .i64 (y i), .int .i64 (s i)]
theorem rcells_succ (n : Nat) (t : Nat → Bool) (y s : Nat → Int) : rcells (n + 1) t y s = rcells n t y s ++ [.bool (t n), .int .i64 (y n), .int .i64 (s n)] := by
  simp [rcells, List.range_succ, List.flatMap_append]
def OwnR (w : World) (B : Nat) (v : Value) (n : Nat) (t : Nat → Bool) (y s : Nat → Int) : Prop := w.ownsRow B 39 3 v n (rcells n t y s)
theorem OwnR.nil (w : World) (B : Nat) (t : Nat → Bool) (y s : Nat → Int) : OwnR w B (.slice none 0 0) 0 t y s := World.ownsRow_nil w B 39 3
theorem OwnR.kept {w w' : World} {B : Nat} {v : Value} {n : Nat} {t : Nat → Bool} {y s : Nat → Int} (h : OwnR w B v n t y s) (hs : ∀ k, B ≤ k → k < w.heap.size → some k = v.ownBlock → w'.heap[k]? = w.heap[k]?) : OwnR w' B v n t y s := by
  refine ⟨h.1, ?_⟩
  rcases h.2 with hn | ⟨g, cap, cur, rfl, hb, hgg, rest⟩
  · exact .inl hn
  · refine .inr ⟨g, cap, cur, rfl, hb, ?_, rest⟩
    rw [hs g hb (Array.getElem?_eq_some_iff.1 hgg).1 rfl]
    exact hgg
theorem OwnR.below {w w' : World} {B : Nat} {v : Value} {n : Nat} {t : Nat → Bool} {y s : Nat → Int} (h : OwnR w B v n t y s) (b : Below w.heap.size w w') : OwnR w' B v n t y s := h.kept fun k _ hk _ => b.block k hk
theorem OwnR.alloc {w : World} {B : Nat} {v : Value} {n : Nat} {t : Nat → Bool} {y s : Nat → Int} (h : OwnR w B v n t y s) (o : Obj) : OwnR (w.alloc o) B v n t y s := h.below ((Below.refl _ _).alloc (Nat.le_refl _) o)
theorem OwnR.upd {w w' : World} {B : Nat} {v : Value} {n : Nat} {t : Nat → Bool} {y s : Nat → Int} (h : OwnR w B v n t y s) {c : Addr} {f : Bool} (u : Upd c f w w') (hc : c.block < B) : OwnR w' B v n t y s := h.kept fun k hB hk _ => u.block hk (by omega)
theorem OwnR.row {w : World} {B k : Nat} {v : Value} {n : Nat} {t : Nat → Bool} {y s : Nat → Int} (h : OwnR w B v n t y s) (cs : Array Value) (hk : k < B) : OwnR (w.setRow k cs) B v n t y s := h.kept fun j hB _ _ => Go.setRow_other w k j cs (by omega)
theorem OwnR.blk {w : World} {B : Nat} {v : Value} {n : Nat} {t : Nat → Bool} {y s : Nat → Int} (h : OwnR w B v n t y s) {g : Nat} (e : v.ownBlock = some g) : B ≤ g ∧ g < w.heap.size := by
  rcases h.2 with ⟨rfl, _⟩ | ⟨g', cap, cur, rfl, hb, hgg, _⟩
  · cases e
  · simp [Value.ownBlock] at e; subst e; exact ⟨hb, (Array.getElem?_eq_some_iff.1 hgg).1⟩
/-- As a slice: its cells. -/
theorem OwnR.slc {w : World} {B : Nat} {v : Value} {n : Nat} {t : Nat → Bool} {y s : Nat → Int} (h : OwnR w B v n t y s) :
    (n = 0 ∧ v = .slice none 0 0) ∨ ∃ g cp, v = .slice (some ⟨g, 0, none⟩) n cp ∧ B ≤ g ∧ g < w.heap.size ∧ ∀ j u, (rcells n t y s)[j]? = some u → w.cell? ⟨g, j, none⟩ = some u := by
  rcases h.2 with ⟨hv, h0⟩ | ⟨g, cap, cur, rfl, hb, hgg, h1, h2, h3, h4⟩
  · exact .inl ⟨h0, hv⟩
  · refine .inr ⟨g, cap, rfl, hb, (Array.getElem?_eq_some_iff.1 hgg).1, fun j u hj => ?_⟩
    rw [cell_of_row w g j cur 39 (0, 0) hgg]
    rw [← h4, List.getElem?_take] at hj
    split at hj
    · simpa using hj
    · cases hj
theorem rcells_get {t : Nat → Bool} {y s : Nat → Int} : ∀ {n k : Nat}, k < n → (rcells n t y s)[k * 3]? = some (.bool (t k)) ∧ (rcells n t y s)[k * 3 + 1]? = some (.int .i64 (y k)) ∧ (rcells n t y s)[k * 3 + 2]? = some (.int .i64 (s k))
  | 0, _, h => by omega
  | n + 1, k, h => by
    have hl : (rcells n t y s).length = n * 3 := by
      clear h
      induction n with
      | zero => rfl
      | succ n ih => rw [rcells_succ, List.length_append, ih]; simp; omega
    rw [rcells_succ]
    by_cases e : k = n
    · subst e
      refine ⟨?_, ?_, ?_⟩
      · rw [List.getElem?_append_right (by omega), hl, Nat.sub_self]; rfl
      · rw [List.getElem?_append_right (by omega), hl, show k * 3 + 1 - k * 3 = 1 by omega]; rfl
      · rw [List.getElem?_append_right (by omega), hl, show k * 3 + 2 - k * 3 = 2 by omega]; rfl
    · obtain ⟨a, b, c⟩ := rcells_get (t := t) (y := y) (s := s) (n := n) (k := k) (by omega)
      refine ⟨?_, ?_, ?_⟩
      · rw [List.getElem?_append_left (by omega)]; exact a
      · rw [List.getElem?_append_left (by omega)]; exact b
      · rw [List.getElem?_append_left (by omega)]; exact c
theorem info_R' : ∃ i, Tryz.prog.info? 39 = some i ∧ i.zero = some (.agg #[.bool false, .int .i64 0, .int .i64 0]) ∧ i.size = 3 ∧ i.bytes = 24 := by
  have h : (Tryz.prog.info? 39).map (fun i => (i.zero, i.size, i.bytes)) = some (some (.agg #[.bool false, .int .i64 0, .int .i64 0]), 3, 24) := by kernel_rfl
  cases e : Tryz.prog.info? 39 with
  | none => rw [e] at h; cases h
  | some i => rw [e] at h; simp at h; exact ⟨i, rfl, h.1, h.2.1, h.2.2⟩
theorem wpList_appR {w : World} {ops : Array Oper} {rest : List Oper} {o : Oper} {a : Act} {Q : Exit → Act → World → Prop} (hgd : o.guard = none) (s' x : Operand)
    (ho : o.op = .call { callee := .builtin .append, args := #[s', x], argTypes := #[51, 51] })
    (B : Nat) {v : Value} {n : Nat} {t : Nat → Bool} {y s : Nat → Int} (hs : a.eval s' = v) (hown : OwnR w B v n t y s) (nb c : Nat) (hx : a.eval x = .slice (some ⟨nb, 0, none⟩) 1 c)
    (hy : w.cell? ⟨nb, 0, none⟩ = some (.bool (t n)) ∧ w.cell? ⟨nb, 1, none⟩ = some (.int .i64 (y n)) ∧ w.cell? ⟨nb, 2, none⟩ = some (.int .i64 (s n))) (hn : n ≤ 1000000) (hB : B ≤ w.heap.size) (H : Nat) (hH : w.heap.size = H)
    (h : ∀ g cap w', OwnR w' B (.slice (some ⟨g, 0, none⟩) (n + 1) cap) (n + 1) t y s → w.grownBy w' v.ownBlock → (v.ownBlock = some g ∨ g = H) → g < w'.heap.size → wpList Tryz.prog ops Q rest (a.put o.dst (.slice (some ⟨g, 0, none⟩) (n + 1) cap)) w') : wpList Tryz.prog ops Q (o :: rest) a w := by
  obtain ⟨i, hi, hz, hsz, hb⟩ := info_R'
  refine wpList_append_lies w hgd s' x 51 ho B 39 i _ 3 24 Tryz.underlying51 hi hz hsz hb rfl (by decide) v n (rcells n t y s) hs hown ⟨nb, 0, none⟩ 1 c [.bool (t n), .int .i64 (y n), .int .i64 (s n)] hx rfl
    (fun j u hu => ?_) (fun u hu => ?_) (by decide) (by unfold maxLen; omega) (by omega) hB H hH (fun g cap w' h1 h2 h3 h4 => h g cap w' (by unfold OwnR; rw [rcells_succ]; exact h1) h2 h3 h4)
  · have hj : j < 3 := (List.getElem?_eq_some_iff.1 hu).1
    rcases (show j = 0 ∨ j = 1 ∨ j = 2 by omega) with h | h | h
    · rw [h] at hu ⊢; simp at hu; rw [← hu]; exact hy.1
    · rw [h] at hu ⊢; simp at hu; rw [← hu]; exact hy.2.1
    · rw [h] at hu ⊢; simp at hu; rw [← hu]; exact hy.2.2
  · simp at hu; rcases hu with rfl | rfl | rfl <;> rfl
end Go.Proofs.YtiajjiphknlldaaGreat
/- Contracts of fuse.Count and fuse.All. -/
namespace Go.Proofs.YtiajjiphknlldaaGreat
open Go.RowKit
set_option maxRecDepth 100000
def cntT (t : Nat → Bool) : Nat → Nat | 0 => 0 | n + 1 => cntT t n + (if t n = true then 1 else 0)
theorem cntT_le (t : Nat → Bool) (n : Nat) : cntT t n ≤ n := by
  induction n with
  | zero => exact Nat.le_refl _
  | succ n ih => simp only [cntT]; split <;> omega
/-- A slice of results. -/
def SlcR (w : World) (p : Option Addr) (n : Nat) (t : Nat → Bool) (y s : Nat → Int) : Prop := ∀ k, k < n → ∃ b, p = some ⟨b, 0, none⟩ ∧ w.cell? ⟨b, k * 3, none⟩ = some (.bool (t k)) ∧ w.cell? ⟨b, k * 3 + 1, none⟩ = some (.int .i64 (y k)) ∧ w.cell? ⟨b, k * 3 + 2, none⟩ = some (.int .i64 (s k))
set_option maxHeartbeats 1000000 in
theorem count_any (p : Option Addr) (n cp : Nat) (t : Nat → Bool) (y s : Nat → Int) (w : World) (hn : n ≤ 1000000) (hL : SlcR w p n t y s) :
    Calls Tryz.prog 11 #[.slice p n cp] w fun e w' => e = .returned (.tuple #[.int .i64 (cntT t n : Nat), .int .i64 ((n : Int) - (cntT t n : Nat))]) ∧ Below w.heap.size w w' := by
  have HL := Lib.hid hL
  clear hL
  go_enter Tryz.func11, Tryz.ntmps11
  go_wp2_with fail
  go_loopw [2, 3, 8] (fun a b i wr => ∃ k : Nat, k ≤ n ∧ i = .int .i64 k ∧ Hid (a = .int .i64 (cntT t k : Nat) ∧ b = .int .i64 ((k : Int) - (cntT t k : Nat)) ∧ Below w.heap.size w wr)) (fun _ _ i _ => n - (intOf i).toNat)
  case atStart => exact ⟨0, by omega, rfl, Lib.hid ⟨rfl, rfl, Below.refl _ _⟩⟩
  case round =>
    obtain ⟨k, hk, rfl, R⟩ := hrel
    obtain ⟨ra, rb, RB⟩ := R.out
    have RB := Lib.hid RB
    clear R
    subst ra rb
    have hct := cntT_le t k
    by_cases hlt : k < n
    · obtain ⟨b, rfl, c0, c1, c2⟩ := HL.out k hlt
      have hb := World.block_lt_of_cell? _ _ c0
      have e0 := (RB.out.cell (p := ⟨b, k * 3, none⟩) hb).trans c0
      have e1 := (RB.out.cell (p := ⟨b, k * 3 + 1, none⟩) hb).trans c1
      have e2 := (RB.out.cell (p := ⟨b, k * 3 + 2, none⟩) hb).trans c2
      have k0 : (0 : Int) ≤ (k : Int) := Int.natCast_nonneg _
      have k1 : (k : Int) < 1000000 := by omega
      have hsc : Hid (cntT t (k + 1) = cntT t k + (if t k = true then 1 else 0)) := Lib.hid rfl
      obtain ⟨ct, hct2⟩ : ∃ ct, cntT t k = ct := ⟨_, rfl⟩
      rw [hct2] at hct hsc ⊢
      obtain ⟨lf, hlf⟩ : ∃ lf : Nat, k - ct = lf := ⟨_, rfl⟩
      have hl2 : (k : Int) - (ct : Int) = (lf : Int) := by omega
      rw [hl2]
      have hlb : (lf : Int) < 1000000 := by omega
      have hlc : (0 : Int) ≤ (lf : Int) := Int.natCast_nonneg _
      have hcb : (ct : Int) < 1000000 := by omega
      have hcc : (0 : Int) ≤ (ct : Int) := Int.natCast_nonneg _
      have d1 : decide (k < n) = true := by simpa using hlt
      cases ht : t k
      all_goals
        rw [ht] at e0 hsc
        have HSC := hsc
        have HLF := Lib.hid hlf
        clear ht c0 c1 c2 hct2 hl2 hlf hsc
        go_wp2_with fail
        go_roundw
        case rel =>
          refine ⟨k + 1, by omega, by go_num, Lib.hid ⟨?_, ?_, RB.out.alloc (by have := RB.out.size; omega) _⟩⟩
          · rw [HSC.out]; simp
          · rw [HSC.out]
            have hq := HLF.out
            congr 1
            first | (rw [if_pos rfl]; omega) | (rw [if_neg (by decide)]; omega)
        case measure => simp [intOf]; omega
    · have hkn : k = n := by omega
      subst hkn
      have d1 : decide (k < k) = false := by simp
      go_wp2_with fail
      go_ret2
      exact ⟨rfl, RB.out⟩
end Go.Proofs.YtiajjiphknlldaaGreat
/- Contract of fuse.All. -/
namespace Go.Proofs.YtiajjiphknlldaaGreat
open Go.RowKit
set_option maxRecDepth 100000
theorem zob : (#[.int .i64 0, .int .i64 0, .int .i64 0, .int .i64 0, .int .i64 0, .int .i64 0, .int .i64 0, .int .i64 0, .int .i64 0, .int .i64 0, .int .i64 0, .int .i64 0, .int .i64 0, .int .i64 0, .int .i64 0, .int .i64 0, .int .i64 0, .int .i64 0, .int .i64 0, .int .i64 0, .int .i64 0, .int .i64 0, .int .i64 0, .int .i64 0, .int .i64 0, .int .i64 0, .int .i64 0] : Array Value) = arrv 27 (fun _ => 0) := by kernel_rfl
structure AlR (c : Addr) (h : Bool) (S P : Nat → Int) (v : Value) (n : Nat) (t : Nat → Bool) (y s : Nat → Int) (w wr : World) : Prop where
  upd : Upd c h w wr
  sB : Blk wr w.heap.size 23 24 S
  pB : Blk wr (w.heap.size + 1) 26 300 P
  r0 : Blk wr (w.heap.size + 1 + 1) 23 24 (fun _ => 0)
  r1 : Blk wr (w.heap.size + 1 + 1 + 1) 26 300 (fun _ => 0)
  own : OwnR wr (w.heap.size + 1 + 1 + 1 + 1) v n t y s
theorem AlR.upd' {c : Addr} {h h' : Bool} {S P : Nat → Int} {v : Value} {n : Nat} {t : Nat → Bool} {y s : Nat → Int} {w wr w' : World} (r : AlR c h S P v n t y s w wr) (hc : c.block < w.heap.size) (u : Upd c h' wr w') : AlR c h' S P v n t y s w w' :=
  ⟨r.upd.trans u, r.sB.upd u (by omega), r.pB.upd u (by omega), r.r0.upd u (by omega), r.r1.upd u (by omega), r.own.upd u (by omega)⟩
theorem AlR.down {c : Addr} {h : Bool} {S P : Nat → Int} {v : Value} {n : Nat} {t : Nat → Bool} {y s : Nat → Int} {w wr w' : World} (r : AlR c h S P v n t y s w wr) (u : Below wr.heap.size wr w') : AlR c h S P v n t y s w w' :=
  ⟨r.upd.then u, r.sB.below u, r.pB.below u, r.r0.below u, r.r1.below u, r.own.below u⟩
theorem AlR.rowS {c : Addr} {h : Bool} {S P : Nat → Int} {v : Value} {n : Nat} {t : Nat → Bool} {y s : Nat → Int} {w wr : World} (r : AlR c h S P v n t y s w wr) (F : Nat → Int) : AlR c h F P v n t y s w (wr.setRow w.heap.size (arrv 24 F)) :=
  ⟨r.upd.then' (below_row (Below.refl _ _) (Nat.le_refl _) _), r.sB.setRow F, r.pB.setRow_other _ (by omega), r.r0.setRow_other _ (by omega), r.r1.setRow_other _ (by omega), r.own.row _ (by omega)⟩
theorem AlR.rowP {c : Addr} {h : Bool} {S P : Nat → Int} {v : Value} {n : Nat} {t : Nat → Bool} {y s : Nat → Int} {w wr : World} (r : AlR c h S P v n t y s w wr) (F : Nat → Int) : AlR c h S F v n t y s w (wr.setRow (w.heap.size + 1) (arrv 300 F)) :=
  ⟨r.upd.then' (below_row (Below.refl _ _) (by omega) _), r.sB.setRow_other _ (by omega), r.pB.setRow F, r.r0.setRow_other _ (by omega), r.r1.setRow_other _ (by omega), r.own.row _ (by omega)⟩
theorem AlR.drew {c : Addr} {h : Bool} {S P : Nat → Int} {v : Value} {n : Nat} {t : Nat → Bool} {y s : Nat → Int} {w wr : World} (r : AlR c h S P v n t y s w wr) : AlR c h S P v n t y s w wr.drew :=
  ⟨r.upd.drew, r.sB.drew, r.pB.drew, r.r0.drew, r.r1.drew, r.own.kept fun _ _ _ _ => rfl⟩
/-- A block of its own that no other is told of is written. -/
theorem AlR.set {c : Addr} {h : Bool} {S P : Nat → Int} {v : Value} {n : Nat} {t : Nat → Bool} {y s : Nat → Int} {w wr : World} (r : AlR c h S P v n t y s w wr) {b o : Nat} (hb : w.heap.size + 1 + 1 + 1 < b) (hv : v.ownBlock ≠ some b) (x : Value) : AlR c h S P v n t y s w (wr.setCell ⟨b, o, none⟩ x) :=
  ⟨r.upd.setCell (by simp; omega) _, r.sB.other (by simp; omega) _, r.pB.other (by simp; omega) _, r.r0.other (by simp; omega) _, r.r1.other (by simp; omega) _, r.own.kept fun k _ _ e => heap_setCell_other _ _ k x (fun e2 => hv (by rw [← e, e2]))⟩
theorem AlR.grown {c : Addr} {h : Bool} {S P : Nat → Int} {v v' : Value} {n : Nat} {t : Nat → Bool} {y s : Nat → Int} {w wr w' : World} (r : AlR c h S P v n t y s w wr) (g : wr.grownBy w' v.ownBlock) (ho : OwnR w' (w.heap.size + 1 + 1 + 1 + 1) v' (n + 1) t y s) : AlR c h S P v' (n + 1) t y s w w' := by
  have hb : ∀ k, k < w.heap.size + 1 + 1 + 1 + 1 → k < wr.heap.size → w'.heap[k]? = wr.heap[k]? := fun k hk hl => g.block k hl (fun e => by have := (r.own.blk e.symm).1; omega)
  refine ⟨r.upd.then' (below_grown (Below.refl _ _) g (fun k e => by have := (r.own.blk e).1; omega) r.upd.size), ?_, ?_, ?_, ?_, ho⟩
  · exact (hb _ (by omega) r.sB.lt).trans r.sB
  · exact (hb _ (by omega) r.pB.lt).trans r.pB
  · exact (hb _ (by omega) r.r0.lt).trans r.r0
  · exact (hb _ (by omega) r.r1.lt).trans r.r1
theorem al_start (c : Addr) (h : Bool) (S P : Nat → Int) (t : Nat → Bool) (y s : Nat → Int) (w : World) (hc : w.cell? c = some (.bool h)) :
    AlR c h S P (.slice none 0 0) 0 t y s w ((((w.alloc (.cells (arrv 24 S) 23)).alloc (.cells (arrv 300 P) 26)).alloc (.cells #[.int .i64 0, .int .i64 0, .int .i64 0, .int .i64 0, .int .i64 0, .int .i64 0, .int .i64 0, .int .i64 0, .int .i64 0, .int .i64 0, .int .i64 0, .int .i64 0, .int .i64 0, .int .i64 0, .int .i64 0, .int .i64 0, .int .i64 0, .int .i64 0, .int .i64 0, .int .i64 0, .int .i64 0, .int .i64 0, .int .i64 0, .int .i64 0] 23)).alloc (.cells Tryz.zeroCells26 26)) := by
  rw [zvec24, zcov]
  exact ⟨Upd.then (Upd.refl hc) (by (repeat (first | with_reducible exact Below.refl _ _ | with_reducible apply Below.drew | (with_reducible refine below_drewN ?_ _) | (with_reducible refine Below.alloc ?_ (by (try simp) <;> omega) _) | (with_reducible refine Below.setCell ?_ (by (try simp) <;> omega) _)))), (((Blk.new w _ 24 _).alloc _).alloc _).alloc _, ((Blk.new1 w _ _ 300 _).alloc _).alloc _, (blk_new2 w _ _ _ 24 _).alloc _, blk_new3 w _ _ _ _ _ _, OwnR.nil _ _ _ _ _⟩
set_option maxHeartbeats 8000000 in
theorem all_anyM (c : Addr) (h : Bool) (S P O : Nat → Int) (pd n m cp : Nat) (w : World) (hc : w.cell? c = some (.bool h)) (hf : w.frozen? c = false) (hn : n ≤ 1000)
    (hD : 0 < n → n ≤ m ∧ Blk w pd 29 (27 * m) O) (hO : ∀ i, -9223372036854775808 ≤ O i ∧ O i ≤ 9223372036854775807) (q : Option Addr) (hq : 0 < n → q = some ⟨pd, 0, none⟩) :
    Calls Tryz.prog 10 #[.pointer (some c), .agg (arrv 24 S), .agg (arrv 300 P), .slice q n cp] w fun e w' =>
      ∃ v, e = .returned (.tuple #[.agg (arrv 24 (alN S P O n).1), .agg (arrv 300 (alN S P O n).2), v]) ∧ Upd c (h || alH S P O n) w w' ∧ OwnR w' (w.heap.size + 1 + 1 + 1 + 1) v n (alT S P O) (alY O) (alV S P O) := by
  have hcb := World.block_lt_of_cell? w c hc
  have R0 := Lib.hid (al_start c h S P (alT S P O) (alY O) (alV S P O) w hc)
  have HC := Lib.hid hc
  have HF := Lib.hid hf
  have HD := Lib.hid hD
  have HO := Lib.hid hO
  have HQ := Lib.hid hq
  clear hc hf hD hO hq
  go_enter Tryz.func10, Tryz.ntmps10
  go_upto_region 1 with fail
  generalize (((w.alloc (.cells (arrv 24 S) 23)).alloc (.cells (arrv 300 P) 26)).alloc (.cells #[.int .i64 0, .int .i64 0, .int .i64 0, .int .i64 0, .int .i64 0, .int .i64 0, .int .i64 0, .int .i64 0, .int .i64 0, .int .i64 0, .int .i64 0, .int .i64 0, .int .i64 0, .int .i64 0, .int .i64 0, .int .i64 0, .int .i64 0, .int .i64 0, .int .i64 0, .int .i64 0, .int .i64 0, .int .i64 0, .int .i64 0, .int .i64 0] 23)).alloc (.cells Tryz.zeroCells26 26) = W0 at *
  go_wp2_with fail
  go_loopw [11, 17] (fun v0 i wr => ∃ (k : Nat) (v : Value), k ≤ n ∧ i = .int .i64 k ∧ v = v0 ∧ Hid (AlR c (h || alH S P O k) (alN S P O k).1 (alN S P O k).2 v k (alT S P O) (alY O) (alV S P O) w wr)) (fun _ i _ => n - (intOf i).toNat)
  case atStart => exact ⟨0, _, by omega, rfl, rfl, by rw [show (h || alH S P O 0) = h from by simp [alH]]; exact R0.out⟩
  case round =>
    obtain ⟨k, v, hk, rfl, hv0, R⟩ := hrel
    subst hv0
    clear R0
    by_cases hlt : k < n
    · obtain rfl := HQ.out (by omega)
      obtain ⟨hnm, DB0⟩ := HD.out (by omega)
      have d1 : decide (k < n) = true := by simpa using hlt
      have k0 : (0 : Int) ≤ (k : Int) := Int.natCast_nonneg _
      have k1 : (k : Int) < 1000 := by omega
      have hdc : pd ≠ c.block := DB0.flag HC.out
      have DB := DB0.upd R.out.upd hdc
      obtain ⟨E, hE⟩ : ∃ E : Nat → Int, rowO O k = E := ⟨_, rfl⟩
      have hE2 : (fun i => O (k * 27 + i)) = E := hE
      obtain ⟨SS, hS⟩ : ∃ x, (alN S P O k).1 = x := ⟨_, rfl⟩
      obtain ⟨PP, hP⟩ : ∃ x, (alN S P O k).2 = x := ⟨_, rfl⟩
      obtain ⟨H1, hH1⟩ : ∃ x, (h || alH S P O k) = x := ⟨_, rfl⟩
      have HST := Lib.hid (show (alN S P O (k + 1)).1 = foSt SS PP E ∧ (alN S P O (k + 1)).2 = foPt PP E ∧ (h || alH S P O (k + 1)) = (H1 || foFl SS PP E) ∧ alT S P O k = foL PP E ∧ alY O k = foY E ∧ alV S P O k = foS PP E by
        rw [← hE, ← hS, ← hP, ← hH1]; exact ⟨rfl, rfl, by simp [alH, Bool.or_assoc], rfl, rfl, rfl⟩)
      have EO : Hid (-9223372036854775808 ≤ E 26 ∧ E 26 ≤ 9223372036854775807) := Lib.hid (by rw [← hE]; exact HO.out _)
      rw [hS, hP, hH1] at R
      have HE2 := Lib.hid hE2
      clear hE hE2 hS hP hH1 DB0
      have X1 : Blk (wr.alloc (.cells #[.int .i64 0, .int .i64 0, .int .i64 0, .int .i64 0, .int .i64 0, .int .i64 0, .int .i64 0, .int .i64 0, .int .i64 0, .int .i64 0, .int .i64 0, .int .i64 0, .int .i64 0, .int .i64 0, .int .i64 0, .int .i64 0, .int .i64 0, .int .i64 0, .int .i64 0, .int .i64 0, .int .i64 0, .int .i64 0, .int .i64 0, .int .i64 0, .int .i64 0, .int .i64 0, .int .i64 0] 29)) wr.heap.size 29 27 (fun _ => 0) := by rw [zob]; exact Blk.new _ _ 27 _
      go_upto_region 5 with (first | (refine wpList_load_sub rfl 29 _ rfl pd (k * 27) 27 rfl DB (by omega) _ Tryz.underlying29 rfl iob ?_; rw [HE2.out]) | (refine wpList_store_row rfl 29 _ _ rfl (wr.heap.size) _ rfl rfl 29 _ (X1) (iob.trans (by rw [arrv_size])) (by rw [arrv_size, arrv_size]) (oneCell_arrv _ _) ?_))
      have BX : Below wr.heap.size wr ((wr.alloc (.cells #[.int .i64 0, .int .i64 0, .int .i64 0, .int .i64 0, .int .i64 0, .int .i64 0, .int .i64 0, .int .i64 0, .int .i64 0, .int .i64 0, .int .i64 0, .int .i64 0, .int .i64 0, .int .i64 0, .int .i64 0, .int .i64 0, .int .i64 0, .int .i64 0, .int .i64 0, .int .i64 0, .int .i64 0, .int .i64 0, .int .i64 0, .int .i64 0, .int .i64 0, .int .i64 0, .int .i64 0] 29)).setRow wr.heap.size (arrv 27 E)) := below_row (by (repeat (first | with_reducible exact Below.refl _ _ | with_reducible apply Below.drew | (with_reducible refine below_drewN ?_ _) | (with_reducible refine Below.alloc ?_ (by (try simp) <;> omega) _) | (with_reducible refine Below.setCell ?_ (by (try simp) <;> omega) _)))) (Nat.le_refl _) _
      have K1 := Lib.hid (R.out.down BX)
      have O1 := Lib.hid (X1.setRow E)
      have hvo : Hid (∀ b, wr.heap.size ≤ b → v.ownBlock ≠ some b) := Lib.hid fun b hb e => by have := (R.out.own.blk e).2; omega
      have hwz : w.heap.size + 1 + 1 + 1 < wr.heap.size := R.out.r1.lt
      obtain ⟨ob, hob⟩ : ∃ x, wr.heap.size = x := ⟨_, rfl⟩
      generalize (wr.alloc (.cells #[.int .i64 0, .int .i64 0, .int .i64 0, .int .i64 0, .int .i64 0, .int .i64 0, .int .i64 0, .int .i64 0, .int .i64 0, .int .i64 0, .int .i64 0, .int .i64 0, .int .i64 0, .int .i64 0, .int .i64 0, .int .i64 0, .int .i64 0, .int .i64 0, .int .i64 0, .int .i64 0, .int .i64 0, .int .i64 0, .int .i64 0, .int .i64 0, .int .i64 0, .int .i64 0, .int .i64 0] 29)).setRow wr.heap.size (arrv 27 E) = W1 at *
      rw [hob] at O1 hvo hwz ⊢
      have hbl : ob < W1.heap.size := O1.out.lt
      have K2 : Hid (AlR c H1 SS PP v k (alT S P O) (alY O) (alV S P O) w (W1.alloc (.cells #[.bool false, .int .i64 0, .int .i64 0] 39))) := Lib.hid (K1.out.down ((Below.refl _ _).alloc (Nat.le_refl _) _))
      have O2 : Hid (Blk (W1.alloc (.cells #[.bool false, .int .i64 0, .int .i64 0] 39)) ob 29 27 E) := Lib.hid (O1.out.alloc _)
      have Z2 : Hid (Res (W1.alloc (.cells #[.bool false, .int .i64 0, .int .i64 0] 39)) W1.heap.size false 0 0) := Lib.hid (Res.new W1 false 0 0)
      clear hob BX X1 R DB K1 O1
      go_upto_region 6 with fail
      obtain ⟨rb, hrb⟩ : ∃ x, W1.heap.size = x := ⟨_, rfl⟩
      generalize W1.alloc (.cells #[.bool false, .int .i64 0, .int .i64 0] 39) = W2 at *
      rw [hrb] at Z2 hbl ⊢
      have hcr : rb ≠ c.block := by omega
      have S2 := K2.out.sB
      have P2 := K2.out.pB
      have O3 := O2.out
      have ON := Lib.hid (fuone_any c H1 SS PP E W2 (K2.out.upd.cellc HC.out) ((K2.out.upd.frozen hcb).trans HF.out) EO.out)
      obtain ⟨SN, hSN⟩ : ∃ x, foSt SS PP E = x := ⟨_, rfl⟩
      obtain ⟨PN, hPN⟩ : ∃ x, foPt PP E = x := ⟨_, rfl⟩
      obtain ⟨TN, hTN⟩ : ∃ x, foL PP E = x := ⟨_, rfl⟩
      obtain ⟨YN, hYN⟩ : ∃ x, foY E = x := ⟨_, rfl⟩
      obtain ⟨VN, hVN⟩ : ∃ x, foS PP E = x := ⟨_, rfl⟩
      obtain ⟨HN, hHN⟩ : ∃ x, (H1 || foFl SS PP E) = x := ⟨_, rfl⟩
      rw [hSN, hPN, hTN, hYN, hVN, hHN] at ON HST
      clear hrb O2 hSN hPN hTN hYN hVN hHN
      go_upto_region 7 with (first | (refine wpList_load_row rfl 23 _ rfl (w.heap.size) rfl 23 _ (0, 0) _ (S2) Tryz.underlying23 rfl (ist.trans (by rw [arrv_size])) ?_) | (refine wpList_load_row rfl 26 _ rfl (w.heap.size + 1) rfl 26 _ (0, 0) _ (P2) Tryz.underlying26 rfl (icov.trans (by rw [arrv_size])) ?_) | (refine wpList_load_row rfl 29 _ rfl (ob) rfl 29 _ (0, 0) _ (O3) Tryz.underlying29 rfl (iob.trans (by rw [arrv_size])) ?_) | (go_at_call 5; (refine ON.out.mono ?_); rintro e w3 ⟨rfl, hu3⟩; have K3 := Lib.hid (K2.out.upd' hcb hu3); have Z3 := Lib.hid (Z2.out.upd hu3 hcr); have S3 := K3.out.sB; have P4 := (K3.out.rowS SN).pB; have Z5 := (Z3.out.row (k := w.heap.size) (arrv 24 SN) (by omega)).row (k := w.heap.size + 1) (arrv 300 PN) (by omega); obtain ⟨⟨v0, v1, v2⟩, y0, y1, y2⟩ := Z5.c; have Z5 := Lib.hid Z5; (simp only [res3]); clear hu3) | (refine wpList_store_row rfl 23 _ _ rfl (w.heap.size) _ rfl rfl 23 _ (S3) (ist.trans (by rw [arrv_size])) (by rw [arrv_size, arrv_size]) (oneCell_arrv _ _) ?_) | (refine wpList_store_row rfl 26 _ _ rfl (w.heap.size + 1) _ rfl rfl 26 _ (P4) (icov.trans (by rw [arrv_size])) (by rw [arrv_size, arrv_size]) (oneCell_arrv _ _) ?_))
      have K6 := Lib.hid ((((K3.out.rowS SN).rowP PN).set (b := rb) (o := 0) (by omega) (hvo.out rb (by omega)) (.bool TN)).set (b := rb) (o := 1) (by omega) (hvo.out rb (by omega)) (.int .i64 YN) |>.set (b := rb) (o := 2) (by omega) (hvo.out rb (by omega)) (.int .i64 VN))
      have Z6 := Lib.hid (Z5.out.set3 TN YN VN)
      generalize ((((w3.setRow w.heap.size (arrv 24 SN)).setRow (w.heap.size + 1) (arrv 300 PN)).setCell ⟨rb, 0, none⟩ (.bool TN)).setCell ⟨rb, 1, none⟩ (.int .i64 YN)).setCell ⟨rb, 2, none⟩ (.int .i64 VN) = w6 at *
      clear S2 P2 O3 ON K2 Z2 K3 Z3 S3 P4 Z5 v0 v1 v2 y0 y1 y2
      obtain ⟨⟨v0, v1, v2⟩, _⟩ := Z6.out.c
      have K7 : Hid (AlR c HN SN PN v k (alT S P O) (alY O) (alV S P O) w (w6.alloc (.cells #[.bool TN, .int .i64 YN, .int .i64 VN] 39))) := Lib.hid (K6.out.down ((Below.refl _ _).alloc (Nat.le_refl _) _))
      have hw6 : w.heap.size + 1 + 1 + 1 < w6.heap.size := K6.out.r1.lt
      have HY := Lib.hid (show (w6.alloc (.cells #[.bool TN, .int .i64 YN, .int .i64 VN] 39)).cell? ⟨w6.heap.size, 0, none⟩ = some (.bool (alT S P O k)) ∧ (w6.alloc (.cells #[.bool TN, .int .i64 YN, .int .i64 VN] 39)).cell? ⟨w6.heap.size, 1, none⟩ = some (.int .i64 (alY O k)) ∧ (w6.alloc (.cells #[.bool TN, .int .i64 YN, .int .i64 VN] 39)).cell? ⟨w6.heap.size, 2, none⟩ = some (.int .i64 (alV S P O k)) by
        rw [HST.out.2.2.2.1, HST.out.2.2.2.2.1, HST.out.2.2.2.2.2]; exact (Res.new w6 TN YN VN).c.1)
      go_upto_region 8 with (first | (refine wpList_appR rfl (.tmp 30) (.tmp 32) rfl (w.heap.size + 1 + 1 + 1 + 1) rfl K7.out.own w6.heap.size 1 rfl HY.out (by omega) (by simp; omega) (w6.heap.size + 1) (by simp) ?_; intro g1 cp1 w7 hO1 hg1 hat1 hlt1; have K8 := Lib.hid (K7.out.grown hg1 hO1); clear hO1 hg1 hat1))
      clear K6 Z6 K7 HY v0 v1 v2
      go_wp2_with fail
      go_roundw
      case rel =>
        refine ⟨k + 1, _, by omega, by go_num, rfl, ?_⟩
        rw [HST.out.1, HST.out.2.1, HST.out.2.2.1]
        exact K8
      case measure => simp [intOf]; omega
    · have hkn : k = n := by omega
      have d1 : decide (k < n) = false := by simpa using hlt
      subst hkn
      have B0 := Lib.hid R.out.sB
      have B1 := Lib.hid R.out.pB
      have E0 := Lib.hid R.out.r0
      have E1 := Lib.hid R.out.r1
      obtain ⟨SN, hSN⟩ : ∃ x, (alN S P O k).1 = x := ⟨_, rfl⟩
      obtain ⟨PN, hPN⟩ : ∃ x, (alN S P O k).2 = x := ⟨_, rfl⟩
      rw [hSN] at B0
      rw [hPN] at B1
      have hwz : w.heap.size + 1 + 1 + 1 < wr.heap.size := R.out.r1.lt
      have LD := R.out.drew
      rw [hSN, hPN] at LD
      have T1 : Blk (wr.drew.setRow (w.heap.size + 1 + 1) (arrv 24 SN)) w.heap.size 23 24 SN := LD.sB.setRow_other _ (by omega)
      have T2 : Blk (wr.drew.setRow (w.heap.size + 1 + 1) (arrv 24 SN)) (w.heap.size + 1) 26 300 PN := LD.pB.setRow_other _ (by omega)
      have T4 : Blk (wr.drew.setRow (w.heap.size + 1 + 1) (arrv 24 SN)) (w.heap.size + 1 + 1 + 1) 26 300 (fun _ => 0) := LD.r1.setRow_other _ (by omega)
      have HM0 := Lib.hid (And.intro B0.out B1.out)
      have HM1 := Lib.hid (And.intro T1 T2)
      have HM2 := Lib.hid (And.intro (T1.setRow_other (k := w.heap.size + 1 + 1 + 1) (arrv 300 PN) (by omega)) (T2.setRow_other (k := w.heap.size + 1 + 1 + 1) (arrv 300 PN) (by omega)))
      have HL0 := Lib.hid LD.r0
      have HR2 := Lib.hid T4
      have D1 := Lib.hid ((LD.r0.setRow SN).setRow_other (arrv 300 PN) (show w.heap.size + 1 + 1 ≠ w.heap.size + 1 + 1 + 1 by omega))
      have D2 := Lib.hid (T4.setRow PN)
      have DU := Lib.hid ((LD.upd.then' (below_row (Below.refl _ _) (show w.heap.size ≤ w.heap.size + 1 + 1 by omega) (arrv 24 SN))).then' (below_row (Below.refl _ _) (show w.heap.size ≤ w.heap.size + 1 + 1 + 1 by omega) (arrv 300 PN)))
      have DO := Lib.hid ((LD.own.row (arrv 24 SN) (show w.heap.size + 1 + 1 < w.heap.size + 1 + 1 + 1 + 1 by omega)).row (arrv 300 PN) (show w.heap.size + 1 + 1 + 1 < w.heap.size + 1 + 1 + 1 + 1 by omega))
      clear LD T1 T2 T4 R B0 B1 E0 E1 HQ HD HO hk hlt
      go_upto_region 9 with fail
      refine wp_region_M (fun w' => Blk w' w.heap.size 23 24 SN ∧ Blk w' (w.heap.size + 1) 26 300 PN) 5 (by kernel_rfl) ?_ (fun hHeld => ?_)
      · exact HM0.out
      refine wpAnyM_take 0 (v := ?_) rfl (by kernel_rfl) (fun _ _ _ h => h) (Or.inl ⟨by rfl, ?_⟩) (by assumption) ?_
      rotate_left
      · (intro wx hSw; refine Eq.trans (run_load_row 23 (.tmp 5) (by rfl) (w.heap.size) (by rfl) _ _ _ _ (hSw.1) Tryz.underlying23 rfl (ist.trans (by rw [arrv_size]))) ?_; with_reducible rfl)
      (try simp only [Act.put, nA, nB, nC])
      refine wpAnyM_take 1 (v := ?_) rfl (by kernel_rfl) (fun _ _ _ h => h) (Or.inl ⟨by rfl, ?_⟩) (by assumption) ?_
      rotate_left
      · (intro wx hSw; refine Eq.trans (run_load_row 26 (.tmp 6) (by rfl) (w.heap.size + 1) (by rfl) _ _ _ _ (hSw.2) Tryz.underlying26 rfl (icov.trans (by rw [arrv_size]))) ?_; with_reducible rfl)
      (try simp only [Act.put, nA, nB, nC])
      refine wpAnyM_take 2 (v := ?_) rfl (by kernel_rfl) (fun _ _ _ h => h) (Or.inl ⟨by rfl, ?_⟩) (by assumption) ?_
      rotate_left
      · (intro wx hSw; (try dsimp only at hSw); go_simp; (try with_reducible rfl))
      (try simp only [Act.put, nA, nB, nC])
      refine wpAnyM_oneS 3 rfl (by kernel_rfl) (fun K hK => ?_)
      go_simp; rw [if_pos (arrv_size _ _), run_storeCells_row _ HL0.out]; go_simp
      clear hHeld
      refine hK.out _ _ ?_ (fun hHeld => ?_)
      · exact HM1.out
      clear hK K
      (try simp only [Act.put, nA, nB, nC])
      refine wpAnyM_oneS 4 rfl (by kernel_rfl) (fun K hK => ?_)
      go_simp; rw [if_pos (arrv_size _ _), run_storeCells_row _ HR2.out]; go_simp
      clear hHeld
      refine hK.out _ _ ?_ (fun hHeld => ?_)
      · exact HM2.out
      clear hK K
      (try simp only [Act.put, nA, nB, nC])
      refine wpAnyM_one 5 rfl (by kernel_rfl) (fun K hK => ?_)
      go_simp
      refine hK.out _ _ (.inl (by kernel_rfl)) (fun _ => ?_)
      clear hK K
      (try simp only [Act.put, nA, nB, nC])
      refine wpAnyM_done (by kernel_rfl) ?_ _
      go_wp2_with fail
      refine bodyPost_ret_by (results_rows2 Tryz.results10 _ _ (w.heap.size + 1 + 1) (w.heap.size + 1 + 1 + 1) 23 26 (arrv 24 SN) (arrv 300 PN) (0, 0) (0, 0) _ _ rfl D1.out Tryz.underlying23 rfl (ist.trans (by rw [arrv_size])) rfl D2.out Tryz.underlying26 rfl (icov.trans (by rw [arrv_size])) v rfl) rfl ⟨v, ?_, ?_, ?_⟩
      · rw [hSN, hPN]
      · exact DU.out
      · exact DO.out
theorem all_any (c : Addr) (h : Bool) (S P O : Nat → Int) (pd n cp : Nat) (w : World) (hc : w.cell? c = some (.bool h)) (hf : w.frozen? c = false) (hn : n ≤ 1000)
    (hD : 0 < n → Blk w pd 29 (27 * n) O) (hO : ∀ i, -9223372036854775808 ≤ O i ∧ O i ≤ 9223372036854775807) (q : Option Addr) (hq : 0 < n → q = some ⟨pd, 0, none⟩) :
    Calls Tryz.prog 10 #[.pointer (some c), .agg (arrv 24 S), .agg (arrv 300 P), .slice q n cp] w fun e w' =>
      ∃ v, e = .returned (.tuple #[.agg (arrv 24 (alN S P O n).1), .agg (arrv 300 (alN S P O n).2), v]) ∧ Upd c (h || alH S P O n) w w' ∧ OwnR w' (w.heap.size + 1 + 1 + 1 + 1) v n (alT S P O) (alY O) (alV S P O) :=
  all_anyM c h S P O pd n n cp w hc hf hn (fun h0 => ⟨Nat.le_refl _, hD h0⟩) hO q hq
end Go.Proofs.YtiajjiphknlldaaGreat
/- bierman's update reads 24 numbers of the row and 300 of the factors. No program. -/
namespace Go.Proofs.YtiajjiphknlldaaGreat
theorem dotB_congr {A B A' B' : Nat → Int} : ∀ {n : Nat}, (∀ i, i < n → A i = A' i ∧ B i = B' i) → dotB A B n = dotB A' B' n
  | 0, _ => rfl
  | n + 1, h => by simp only [dotB]; rw [dotB_congr fun i hi => h i (by omega), (h n (by omega)).1, (h n (by omega)).2]
theorem dotV_congr {s : Int} {A B A' B' : Nat → Int} {n : Nat} (h : ∀ i, i < n → A i = A' i ∧ B i = B' i) : dotV s A B n = dotV s A' B' n := by unfold dotV; rw [dotS_congr h]
theorem dotH_congr {s : Int} {A B A' B' : Nat → Int} {n : Nat} (h : ∀ i, i < n → A i = A' i ∧ B i = B' i) : dotH s A B n = dotH s A' B' n := by unfold dotH; rw [dotS_congr h, dotB_congr h]
theorem uV_congr {p q : Nat → Int} (hp : ∀ x, x < 300 → p x = q x) {i j : Nat} (hj : j < 24) : uV p i j = uV q i j := by
  unfold uV; split
  · rfl
  · split
    · rename_i h; exact hp _ (by have := pl_lt h hj; omega)
    · rfl
section
variable {p q h g : Nat → Int} (hp : ∀ x, x < 300 → p x = q x) (hh : ∀ i, i < 24 → h i = g i)
include hp
theorem colF_c {j : Nat} (hj : j < 24) : colF p j = colF q j := by funext m; unfold colF; split <;> first | exact uV_congr hp hj | rfl
include hh
theorem bkF_c {j : Nat} (hj : j < 24) : bkF p h j = bkF q g j ∧ bkFH p h j = bkFH q g j := by
  unfold bkF bkFH; rw [colF_c hp hj]
  exact ⟨dotV_congr fun i hi => ⟨hh i (by omega), rfl⟩, dotH_congr fun i hi => ⟨hh i (by omega), rfl⟩⟩
theorem bkV_c {j : Nat} (hj : j < 24) : bkV p h j = bkV q g j ∧ bkVH p h j = bkVH q g j := by
  unfold bkV bkVH; rw [(bkF_c hp hh hj).1, hp _ (by omega)]; exact ⟨rfl, rfl⟩
theorem bkA_c (r : Int) : ∀ {j : Nat}, j ≤ 24 → bkA p h r j = bkA q g r j
  | 0, _ => rfl
  | j + 1, hj => by simp only [bkA]; rw [bkA_c r (j := j) (by omega), (bkF_c hp hh (j := j) (by omega)).1, (bkV_c hp hh (j := j) (by omega)).1]
theorem bkS_c (r : Int) {j : Nat} (hj : j < 24) : bkS p h r j = bkS q g r j := by
  unfold bkS bkAH; rw [bkA_c hp hh r (j := j) (by omega), (bkF_c hp hh hj).1, (bkV_c hp hh hj).1, (bkF_c hp hh hj).2, (bkV_c hp hh hj).2]
theorem upX_c (r : Int) {j : Nat} (hj : j < 24) : upX p h r j = upX q g r j ∧ upXH p h r j = upXH q g r j := by
  unfold upX upXH; rw [bkA_c hp hh r (j := j) (by omega), (bkF_c hp hh hj).1]; exact ⟨rfl, rfl⟩
theorem upD_c (r : Int) {j : Nat} (hj : j < 24) : upD p h r j = upD q g r j ∧ upDH p h r j = upDH q g r j := by
  unfold upD upDH; rw [bkA_c hp hh r (j := j) (by omega), bkA_c hp hh r (j := j + 1) (by omega), hp _ (by omega)]; exact ⟨rfl, rfl⟩
theorem upB_c : ∀ {j : Nat}, j ≤ 24 → upB p h j = upB q g j
  | 0, _ => rfl
  | j + 1, hj => by
    funext i; simp only [upB]; rw [upB_c (j := j) (by omega), (bkV_c hp hh (j := j) (by omega)).1, uV_congr hp (i := i) (j := j) (by omega)]
theorem upU_c (r : Int) {j i : Nat} (hj : j < 24) : upU p h r j i = upU q g r j i ∧ upRH p h r j i = upRH q g r j i := by
  unfold upU upRH upUH upBH; rw [uV_congr hp hj, upB_c hp hh (j := j) (by omega), (upX_c hp hh r hj).1, (bkV_c hp hh hj).1]; exact ⟨rfl, rfl⟩
theorem upOm_c (r : Int) {O O' : Nat → Int} (hO : ∀ x, x < 300 → O x = O' x) {j : Nat} (hj : j < 24) : ∀ m x, x < 300 → upOm O p h r j m x = upOm O' q g r j m x
  | 0, x, hx => by simp only [upOm, upd]; rw [(upD_c hp hh r hj).1, hO x hx]
  | m + 1, x, hx => by simp only [upOm, upd]; rw [(upU_c hp hh r hj).1, upOm_c r hO hj m x hx]
theorem upO_c (r : Int) : ∀ {j : Nat}, j ≤ 24 → ∀ x, x < 300 → upO p h r j x = upO q g r j x
  | 0, _, x, hx => hp x hx
  | j + 1, hj, x, hx => by simp only [upO]; exact upOm_c hp hh r (upO_c r (j := j) (by omega)) (by omega) j x hx
theorem upCH_c (r : Int) {j : Nat} (hj : j < 24) : upCH p h r j = upCH q g r j := by
  unfold upCH; rw [(upD_c hp hh r hj).2, (upX_c hp hh r hj).2, orB_congr fun i _ => (upU_c hp hh r (i := i) hj).2]
theorem upG_c (r : Int) : upG p h r = upG q g r ∧ upGH p h r = upGH q g r := by
  constructor <;> funext i <;> simp only [upG, upGH] <;> rw [upB_c hp hh (j := 24) (by omega), bkA_c hp hh r (j := 24) (by omega)]
end
theorem condF_c {p q : Nat → Int} (hp : ∀ x, x < 300 → p x = q x) : ∀ x, x < 300 → condF p x = condF q x := fun x hx => by simp only [condF]; rw [hp x hx]
theorem condH_c {p q : Nat → Int} (hp : ∀ x, x < 300 → p x = q x) : condH p = condH q := by
  unfold condH; rw [orB_congr fun i hi => by rw [hp (276 + i) (by omega)], orB_congr (p := fun i => satH (p i)) fun i hi => by rw [hp i (by omega)]]
theorem satS_c {h g : Nat → Int} (hh : ∀ i, i < 24 → h i = g i) : ∀ i, i < 24 → satS h 24 i = satS g 24 i := fun i hi => by simp only [satS]; rw [hh i hi]
/-- The whole update, of rows that agree on 24 and factors that agree on 300. -/
theorem upd_c {p q h g : Nat → Int} (hp : ∀ x, x < 300 → p x = q x) (hh : ∀ i, i < 24 → h i = g i) (r : Int) :
    (∀ x, x < 300 → updP p h r x = updP q g r x) ∧ updG p h r = updG q g r ∧ updS p h r = updS q g r ∧ lkH p h r = lkH q g r ∧ updH p h r = updH q g r := by
  have cp := condF_c hp
  have ch := satS_c hh
  have lk : lkH p h r = lkH q g r := by
    unfold lkH; rw [condH_c hp, orB_congr fun i hi => by rw [hh i hi], orB_congr fun j hj => bkS_c cp ch (varV r) hj]
  refine ⟨upO_c cp ch (varV r) (Nat.le_refl 24), (upG_c cp ch (varV r)).1, bkA_c cp ch (varV r) (Nat.le_refl 24), lk, ?_⟩
  unfold updH; rw [lk, orB_congr fun j hj => upCH_c cp ch (varV r) hj, (upG_c cp ch (varV r)).2]
end Go.Proofs.YtiajjiphknlldaaGreat
