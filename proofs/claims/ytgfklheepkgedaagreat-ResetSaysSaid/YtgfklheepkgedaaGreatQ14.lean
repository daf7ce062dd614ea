/- Contracts of the program's functions and plain laws, part 14: they hold for all arguments. -/
import Derived.Test.YtgfklheepkgedaaGreatQ13
import Derived.Test.YtgfklheepkgedaaGreatQ12
import Derived.Test.YtgfklheepkgedaaGreatQ11
/- Contract of reset.Velocity. -/
namespace Go.Proofs.YtgfklheepkgedaaGreat
open Go.RowKit
set_option maxRecDepth 100000
set_option maxHeartbeats 16000000 in
theorem vel_any (c : Addr) (h : Bool) (S P : Nat → Int) (T : Nat → Int) (v : Int) (w : World) (hc : w.cell? c = some (.bool h)) (hf : w.frozen? c = false) :
  Calls Tryz.prog 8 #[.pointer (some c), .agg (arrv 24 S), .agg (arrv 300 P), .agg (arrv 3 T), .int .i64 v] w fun e w' =>
   e = .returned (.tuple #[.agg (arrv 24 (jpS S 4 T 3)), .agg (arrv 300 (stepF P (rtF 4 3) (rtQ 4 (fun _ => v) 3))), .agg (arrv 11 (midF (tdF dl0 2) 4 3 (mvD (keepF S) 4 T)))]) ∧
   Upd c (jpH h S 4 T 3 || orB (rtB 4 (fun _ => v)) 3 || stepH P (rtF 4 3) (rtQ 4 (fun _ => v) 3)) w w' := by
 have hcb := World.block_lt_of_cell? w c hc
 have S0 := Lib.hid (jp_startV c h S P T w hc)
 have HC := Lib.hid hc
 have HF := Lib.hid hf
 clear hc hf
 have EM := Lib.hid (show keepF (mvS (keepF S) 4 T 3) = jpS S 4 T 3 from rfl)
 have EH := Lib.hid (show (h || keepH S || orB (mvB (keepF S) 4 T) 3 || keepH (mvS (keepF S) 4 T 3)) = jpH h S 4 T 3 from rfl)
 go_enter Tryz.func8, Tryz.ntmps8
 go_upto_region 1 with fail
 obtain ⟨W0, hW0⟩ : ∃ x, (((((w.alloc (.cells (arrv 24 S) 23)).alloc (.cells (arrv 300 P) 26)).alloc (.cells (arrv 3 T) 28)).alloc (.cells #[.int .i64 0, .int .i64 0, .int .i64 0, .int .i64 0, .int .i64 0, .int .i64 0, .int .i64 0, .int .i64 0, .int .i64 0, .int .i64 0, .int .i64 0, .int .i64 0, .int .i64 0, .int .i64 0, .int .i64 0, .int .i64 0, .int .i64 0, .int .i64 0, .int .i64 0, .int .i64 0, .int .i64 0, .int .i64 0, .int .i64 0, .int .i64 0] 23)).alloc (.cells Tryz.zeroCells26 26)).alloc (.cells #[.int .i64 0, .int .i64 0, .int .i64 0, .int .i64 0, .int .i64 0, .int .i64 0, .int .i64 0, .int .i64 0, .int .i64 0, .int .i64 0, .int .i64 0] 42) = x := ⟨_, rfl⟩
 rw [hW0] at S0 ⊢
 clear hW0
 have HS := Lib.hid S0.out.1.drew
 have HV := Lib.hid (S0.out.2.below (Below.drew (Below.refl _ _)))
 clear S0
 refine wp_region_M (fun w' => Blk w' w.heap.size 23 24 S ∧ Blk w' (w.heap.size + 1 + 1) 28 3 T) 9 (by kernel_rfl) ?_ (fun hHeld => ?_)
 ·exact ⟨HS.out.s, HV.out⟩
 refine tk 0 ?_
 (try simp only [Act.put, nA, nB, nC])
 refine tk 1 ?_
 (try simp only [Act.put, nA, nB, nC])
 refine tl 2 (v := ?_) ?_ ?_
 rotate_left
 ·(intro wx hSw; refine Eq.trans (run_load_row 23 (.tmp 6) (by rfl) (w.heap.size) (by rfl) _ _ _ _ (hSw.1) Tryz.underlying23 rfl (ist.trans (by rw [arrv_size]))) ?_; with_reducible rfl)
 (try simp only [Act.put, nA, nB, nC])
 refine tl 4 (v := ?_) ?_ ?_
 rotate_left
 ·(intro wx hSw; refine Eq.trans (run_slice_v (.tmp 8) (by rfl) (w.heap.size + 1 + 1) 0 (by rfl)) ?_; with_reducible rfl)
 (try simp only [Act.put, nA, nB, nC])
 refine wpAnyM_oneS 3 rfl (by kernel_rfl) (fun K hK => ?_)
 go_simp
 (refine (keep_any c h S _ (HS.out.upd.cellc HC.out) ((HS.out.upd.frozen hcb).trans HF.out)).mono ?_); rintro e w1 ⟨rfl, hu⟩; have HU := Lib.hid (HS.out.upd' hcb hu); clear HS; have HS := HU; clear HU; have HT := Lib.hid (HV.out.upd hu (by simp; omega)); clear HV hu; have HV := HT; clear HT
 (try dsimp only)
 (try simp only [Act.put, nA, nB, nC])
 clear hHeld
 refine hK.out _ _ ?_ (fun hHeld => ?_)
 ·exact ⟨HS.out.s, HV.out⟩
 clear hK K
 (try simp only [Act.put, nA, nB, nC])
 refine wpAnyM_oneS 5 rfl (by kernel_rfl) (fun K hK => ?_)
 go_simp
 have MC := moved_any c (h || keepH S) (keepF S) 4 _ 3 3 T w1 (HS.out.upd.cellc HC.out) ((HS.out.upd.frozen hcb).trans HF.out) (Slc.of_blk HV.out) (by decide); have hz := HS.out.r2.lt; (rw [show ((4 : Nat) : Int) = 4 from rfl] at MC); (refine MC.mono ?_); (rw [EM.out, EH.out]); rintro e w3 ⟨v0, rfl, ho, hu⟩; clear MC; have HO := Lib.hid (ho.raise (B' := w.heap.size + 1 + 1 + 1 + 1 + 1 + 1) (by first | omega | (simp at hz ⊢; omega))); have HU := Lib.hid (HS.out.upd' hcb hu); have HT := Lib.hid (HV.out.upd hu (by simp; omega)); clear HV; have HV := HT; clear HT; clear HS hu ho hz; have HS := HU; clear HU
 (try dsimp only)
 (try simp only [Act.put, nA, nB, nC])
 clear hHeld
 refine hK.out _ _ ?_ (fun hHeld => ?_)
 ·exact ⟨HS.out.s, HV.out⟩
 clear hK K
 (try simp only [Act.put, nA, nB, nC])
 refine tk 6 ?_
 (try simp only [Act.put, nA, nB, nC])
 refine tk 7 ?_
 (try simp only [Act.put, nA, nB, nC])
 refine wpAnyM_takeW 8 (v := ?_) rfl (by kernel_rfl) (fun _ _ _ h => h) (Or.inl ⟨by rfl, ?_⟩) (.inr (by assumption)) ?_
 rotate_left
 ·(intro wx hSw; (try dsimp only at hSw); go_simp; (try with_reducible rfl))
 (try simp only [Act.put, nA, nB, nC])
 refine wpAnyM_doneL 9 rfl (by kernel_rfl) (by rfl) (by kernel_rfl) (run_store_row 23 (.tmp 6) (.tmp 22) rfl _ rfl rfl HS.out.s ist) ?_
 (try simp only [Act.put, nA, nB, nC])
 refine wpAnyM_takeW 10 (v := ?_) rfl (by kernel_rfl) (fun _ _ _ h => h) (Or.inl ⟨by rfl, ?_⟩) (.inl (by kernel_rfl)) ?_
 rotate_left
 ·(intro wx hSw; (try dsimp only at hSw); go_simp; (try with_reducible rfl))
 (try simp only [Act.put, nA, nB, nC])
 refine wpAnyM_done (by kernel_rfl) ?_ _
 have H2 := Lib.hid (HS.out.rowS (jpS S 4 T 3))
 have O2 := Lib.hid (HO.out.rowk (k := w.heap.size) (arrv 24 (jpS S 4 T 3)) (by omega))
 generalize w3.setRow w.heap.size (arrv 24 (jpS S 4 T 3)) = W2 at *
 clear HS HO
 go_upto_region 2 with fail
 refine wp_region_lit ?_
 refine wpList_step (fun K hK => ?_)
 go_simp
 (refine (nothing_any _).mono ?_); rintro e w4 ⟨rfl, hb⟩; have H4 := Lib.hid (H2.out.down hb); have O4 := Lib.hid (O2.out.below hb); clear hb H2 O2
 (try dsimp only)
 (try simp only [Act.put, nA, nB, nC])
 refine hK _ _ ?_
 clear hK K
 refine wpList_val (v := ?_) rfl ?_ ?_
 rotate_left
 ·(refine Eq.trans (run_build_td (.tmp 24) 2 (by rfl) (by rfl) (by rfl)) ?_; with_reducible rfl)
 (try simp only [Act.put, nA, nB, nC])
 refine wpList_act (v := ?_) (w' := ?_) rfl ?_ ?_
 rotate_left 2
 ·(go_simp; (try (first | with_reducible rfl | (constructor <;> with_reducible rfl))))
 (try simp only [Act.put, nA, nB, nC])
 refine wpList_done (w' := ?_) rfl ?_ ?_
 rotate_left
 ·(refine Eq.trans (run_store_row 42 (.tmp 14) (.tmp 25) (by rfl) (w4.heap.size) (by rfl) (by rfl) (show Blk (w4.alloc (.cells #[.int .i64 0, .int .i64 0, .int .i64 0, .int .i64 0, .int .i64 0, .int .i64 0, .int .i64 0, .int .i64 0, .int .i64 0, .int .i64 0, .int .i64 0] 42)) w4.heap.size 42 11 (fun _ => 0) by rw [ztd]; exact Blk.new _ _ _ _) (itd.trans rfl)) ?_; with_reducible rfl)
 (try simp only [Act.put, nA, nB, nC])
 refine wpList_nil ?_
 have NB := Lib.hid (jp_told H4.out O4.out (Nat.le_refl _) (tdF dl0 2))
 generalize (w4.alloc (.cells #[.int .i64 0, .int .i64 0, .int .i64 0, .int .i64 0, .int .i64 0, .int .i64 0, .int .i64 0, .int .i64 0, .int .i64 0, .int .i64 0, .int .i64 0] 42)).setRow w4.heap.size (arrv 11 (tdF dl0 2)) = W4 at *
 obtain ⟨tb, htb⟩ : ∃ x, w4.heap.size = x := ⟨_, rfl⟩
 rw [htb] at NB ⊢
 clear htb H4 O4
 go_upto_region 3 with fail
 refine wp_region_lit ?_
 refine tv ?_
 (try simp only [Act.put, nA, nB, nC])
 refine tv ?_
 (try simp only [Act.put, nA, nB, nC])
 refine wpList_val (v := ?_) rfl ?_ ?_
 rotate_left
 ·(refine Eq.trans (run_slice_v (.tmp 27) (by rfl) tb 4 (by rfl)) ?_; with_reducible rfl)
 (try simp only [Act.put, nA, nB, nC])
 refine tv ?_
 (try simp only [Act.put, nA, nB, nC])
 (refine wpList_copy_mid rfl (.tmp 28) (.tmp 29) rfl tb 4 3 3 rfl 3 (mvD (keepF S) 4 T) rfl NB.out.2.1 (by decide) (by decide) (by decide) 42 11 (tdF dl0 2) NB.out.2.2.1 (by decide) ?_)
 refine wpList_nil ?_
 obtain ⟨TD, hTD⟩ : ∃ x, midF (tdF dl0 2) 4 3 (mvD (keepF S) 4 T) = x := ⟨_, rfl⟩
 rw [hTD]
 have HTD := Lib.hid hTD
 have N2 := Lib.hid (jp_set NB.out.1 NB.out.2.2.1 NB.out.2.2.2 TD)
 generalize W4.setRow tb (arrv 11 TD) = W5 at *
 clear NB hTD
 obtain ⟨MS, hMS⟩ : ∃ x, jpS S 4 T 3 = x := ⟨_, rfl⟩
 obtain ⟨MH, hMH⟩ : ∃ x, jpH h S 4 T 3 = x := ⟨_, rfl⟩
 rw [hMS, hMH] at N2
 have HMM := Lib.hid (And.intro hMS hMH)
 clear hMS hMH EM EH
 go_upto_region 4 with fail
 have HS := Lib.hid (jp_drew N2.out)
 clear N2
 refine wp_region_M (fun w' => Blk w' w.heap.size 23 24 MS ∧ Blk w' (w.heap.size + 1) 26 300 P ∧ Blk w' tb 42 11 TD) 11 (by kernel_rfl) ?_ (fun hHeld => ?_)
 ·exact ⟨HS.out.1.s, HS.out.1.p, HS.out.2.1⟩
 refine tl 0 (v := ?_) ?_ ?_
 rotate_left
 ·(intro wx hSw; refine Eq.trans (run_load_row 23 (.tmp 6) (by rfl) (w.heap.size) (by rfl) _ _ _ _ (hSw.1) Tryz.underlying23 rfl (ist.trans (by rw [arrv_size]))) ?_; with_reducible rfl)
 (try simp only [Act.put, nA, nB, nC])
 refine tk 1 ?_
 (try simp only [Act.put, nA, nB, nC])
 refine tl 2 (v := ?_) ?_ ?_
 rotate_left
 ·(intro wx hSw; refine Eq.trans (run_load_row 26 (.tmp 7) (by rfl) (w.heap.size + 1) (by rfl) _ _ _ _ (hSw.2.1) Tryz.underlying26 rfl (icov.trans (by rw [arrv_size]))) ?_; with_reducible rfl)
 (try simp only [Act.put, nA, nB, nC])
 refine tk 3 ?_
 (try simp only [Act.put, nA, nB, nC])
 refine tk 4 ?_
 (try simp only [Act.put, nA, nB, nC])
 refine tk 5 ?_
 (try simp only [Act.put, nA, nB, nC])
 refine tl 8 (v := ?_) ?_ ?_
 rotate_left
 ·(intro wx hSw; refine Eq.trans (run_load_row 42 (.tmp 14) (by rfl) (tb) (by rfl) _ _ _ _ (hSw.2.2) Tryz.underlying42 rfl (itd.trans (by rw [arrv_size]))) ?_; with_reducible rfl)
 (try simp only [Act.put, nA, nB, nC])
 refine wpAnyM_oneS 6 rfl (by kernel_rfl) (fun K hK => ?_)
 go_simp; have HL := Lib.hid (slc_v3 W5.drew v); have HU := Lib.hid (jp_down HS.out ((Below.refl _ _).alloc (Nat.le_refl _) (.cells #[.int .i64 v, .int .i64 v, .int .i64 v] 2))); clear HS; have HS := HU; clear HU
 clear hHeld
 refine hK.out _ _ ?_ (fun hHeld => ?_)
 ·exact ⟨HS.out.1.s, HS.out.1.p, HS.out.2.1⟩
 clear hK K
 (try simp only [Act.put, nA, nB, nC])
 refine wpAnyM_oneS 7 rfl (by kernel_rfl) (fun K hK => ?_)
 go_simp
 have RC := reset_any c MH P 4 _ 3 3 (fun _ => v) (W5.drew.alloc (.cells #[.int .i64 v, .int .i64 v, .int .i64 v] 2)) (HS.out.1.upd.cellc HC.out) ((HS.out.1.upd.frozen hcb).trans HF.out) HL.out (by decide) (by decide); (refine RC.mono ?_); rintro e w6 ⟨rfl, hu⟩; clear RC HL; have HU := Lib.hid (jp_upd HS.out hcb hu); clear HS hu; have HS := HU; clear HU; have HR := Lib.hid (jp_all HS.out.1 MS (stepF P (rtF 4 3) (rtQ 4 (fun _ => v) 3)) TD)
 (try dsimp only)
 (try simp only [Act.put, nA, nB, nC])
 clear hHeld
 refine hK.out _ _ ?_ (fun hHeld => ?_)
 ·exact ⟨HS.out.1.s, HS.out.1.p, HS.out.2.1⟩
 clear hK K
 (try simp only [Act.put, nA, nB, nC])
 clear hHeld
 refine wpAnyM_doneN 9 rfl (by kernel_rfl) (by rfl) (run_store_row 23 (.tmp 10) (.tmp 31) rfl _ rfl rfl HS.out.1.r0 ist) ?_ (fun hHeld => ?_)
 ·exact (jp_k0 HS.out.1 HS.out.2.1 HS.out.2.2 MS)
 (try simp only [Act.put, nA, nB, nC])
 clear hHeld
 refine wpAnyM_doneN 10 rfl (by kernel_rfl) (by rfl) (run_store_row 26 (.tmp 11) (.tmp 38) rfl _ rfl rfl HR.out.1 icov) ?_ (fun hHeld => ?_)
 ·exact (jp_k1 HS.out.1 HS.out.2.1 HS.out.2.2 MS _)
 (try simp only [Act.put, nA, nB, nC])
 refine wpAnyM_doneL 11 rfl (by kernel_rfl) (by rfl) (by kernel_rfl) (run_store_row 42 (.tmp 12) (.tmp 39) rfl _ rfl rfl HR.out.2.1 itd) ?_
 (try simp only [Act.put, nA, nB, nC])
 refine wpAnyM_done (by kernel_rfl) ?_ _
 go_wp2_with fail
 refine bodyPost_ret_by (results_rows3 Tryz.results8 _ _ (w.heap.size + 1 + 1 + 1) (w.heap.size + 1 + 1 + 1 + 1) (w.heap.size + 1 + 1 + 1 + 1 + 1) 23 26 42 (arrv 24 MS) (arrv 300 (stepF P (rtF 4 3) (rtQ 4 (fun _ => v) 3))) (arrv 11 TD) (0, 0) (0, 0) (0, 0) _ _ _ rfl HR.out.2.2.1 Tryz.underlying23 rfl (ist.trans (by rw [arrv_size])) rfl HR.out.2.2.2.1 Tryz.underlying26 rfl (icov.trans (by rw [arrv_size])) rfl HR.out.2.2.2.2.1 Tryz.underlying42 rfl (itd.trans (by rw [arrv_size]))) rfl ⟨?_, ?_⟩
 ·rw [HTD.out, HMM.out.1]
 ·rw [HMM.out.2]; exact HR.out.2.2.2.2.2
end Go.Proofs.YtgfklheepkgedaaGreat
/- Contract of reset.Horizontal. -/
namespace Go.Proofs.YtgfklheepkgedaaGreat
open Go.RowKit
set_option maxRecDepth 100000
set_option maxHeartbeats 16000000 in
theorem hor_any (c : Addr) (h : Bool) (S P : Nat → Int) (x0 x1 v : Int) (w : World) (hc : w.cell? c = some (.bool h)) (hf : w.frozen? c = false) :
  Calls Tryz.prog 10 #[.pointer (some c), .agg (arrv 24 S), .agg (arrv 300 P), .int .i64 x0, .int .i64 x1, .int .i64 v] w fun e w' =>
   e = .returned (.tuple #[.agg (arrv 24 (jpS S 7 (two2 x0 x1) 2)), .agg (arrv 300 (stepF P (rtF 7 2) (rtQ 7 (fun _ => v) 2))), .agg (arrv 11 (midF (tdF dl0 3) 7 2 (mvD (keepF S) 7 (two2 x0 x1))))]) ∧
   Upd c (jpH h S 7 (two2 x0 x1) 2 || orB (rtB 7 (fun _ => v)) 2 || stepH P (rtF 7 2) (rtQ 7 (fun _ => v) 2)) w w' := by
 have hcb := World.block_lt_of_cell? w c hc
 have S0 := Lib.hid (jp_start c h S P w hc)
 have HC := Lib.hid hc
 have HF := Lib.hid hf
 clear hc hf
 have EM := Lib.hid (show keepF (mvS (keepF S) 7 (two2 x0 x1) 2) = jpS S 7 (two2 x0 x1) 2 from rfl)
 have EH := Lib.hid (show (h || keepH S || orB (mvB (keepF S) 7 (two2 x0 x1)) 2 || keepH (mvS (keepF S) 7 (two2 x0 x1) 2)) = jpH h S 7 (two2 x0 x1) 2 from rfl)
 go_enter Tryz.func10, Tryz.ntmps10
 go_upto_region 1 with fail
 generalize ((((w.alloc (.cells (arrv 24 S) 23)).alloc (.cells (arrv 300 P) 26)).alloc (.cells #[.int .i64 0, .int .i64 0, .int .i64 0, .int .i64 0, .int .i64 0, .int .i64 0, .int .i64 0, .int .i64 0, .int .i64 0, .int .i64 0, .int .i64 0, .int .i64 0, .int .i64 0, .int .i64 0, .int .i64 0, .int .i64 0, .int .i64 0, .int .i64 0, .int .i64 0, .int .i64 0, .int .i64 0, .int .i64 0, .int .i64 0, .int .i64 0] 23)).alloc (.cells Tryz.zeroCells26 26)).alloc (.cells #[.int .i64 0, .int .i64 0, .int .i64 0, .int .i64 0, .int .i64 0, .int .i64 0, .int .i64 0, .int .i64 0, .int .i64 0, .int .i64 0, .int .i64 0] 42) = W0 at *
 have HS := S0
 clear S0
 have P0 := HS.out.s
 refine wp_region_lit ?_
 refine tv ?_
 (try simp only [Act.put, nA, nB, nC])
 refine tv ?_
 (try simp only [Act.put, nA, nB, nC])
 refine wpList_val (v := ?_) rfl ?_ ?_
 rotate_left
 ·refine Eq.trans (run_load_row 23 (.tmp 7) (by rfl) (w.heap.size) (by rfl) _ _ _ _ (P0) Tryz.underlying23 rfl (ist.trans (by rw [arrv_size]))) ?_; with_reducible rfl
 (try simp only [Act.put, nA, nB, nC])
 refine wpList_step (fun K hK => ?_)
 go_simp
 clear P0; (refine (keep_any c h S _ (HS.out.upd.cellc HC.out) ((HS.out.upd.frozen hcb).trans HF.out)).mono ?_); rintro e w1 ⟨rfl, hu⟩; have HU := Lib.hid (HS.out.upd' hcb hu); clear HS; have HS := HU; clear HU; clear hu
 (try dsimp only)
 (try simp only [Act.put, nA, nB, nC])
 refine hK _ _ ?_
 clear hK K
 refine tv ?_
 (try simp only [Act.put, nA, nB, nC])
 refine tv ?_
 (try simp only [Act.put, nA, nB, nC])
 refine wpList_act (v := ?_) (w' := ?_) rfl ?_ ?_
 rotate_left 2
 ·(go_simp; (try (first | with_reducible rfl | (constructor <;> with_reducible rfl))))
 (try simp only [Act.put, nA, nB, nC])
 refine wpList_step (fun K hK => ?_)
 go_simp
 have HL := Lib.hid (slc_b2 w1 x0 x1); have HU := Lib.hid (HS.out.down ((Below.refl _ _).alloc (Nat.le_refl _) (.cells #[.int .i64 x0, .int .i64 x1] 2))); clear HS; have HS := HU; clear HU; have MC := moved_any c (h || keepH S) (keepF S) 7 _ 2 2 (two2 x0 x1) (w1.alloc (.cells #[.int .i64 x0, .int .i64 x1] 2)) (HS.out.upd.cellc HC.out) ((HS.out.upd.frozen hcb).trans HF.out) HL.out (by decide); have hz := HS.out.r2.lt; (rw [show ((7 : Nat) : Int) = 7 from rfl] at MC); (refine MC.mono ?_); (rw [EM.out, EH.out]); rintro e w3 ⟨v0, rfl, ho, hu⟩; clear MC; have HO := Lib.hid (ho.raise (B' := w.heap.size + 1 + 1 + 1 + 1 + 1) (by first | omega | (simp at hz ⊢; omega))); have HU := Lib.hid (HS.out.upd' hcb hu); clear HS hu ho hz; have HS := HU; clear HU; have P1 := HS.out.s
 (try dsimp only)
 (try simp only [Act.put, nA, nB, nC])
 refine hK _ _ ?_
 clear hK K
 refine tv ?_
 (try simp only [Act.put, nA, nB, nC])
 refine tv ?_
 (try simp only [Act.put, nA, nB, nC])
 refine tv ?_
 (try simp only [Act.put, nA, nB, nC])
 refine wpList_done (w' := ?_) rfl ?_ ?_
 rotate_left
 ·refine Eq.trans (run_store_row 23 (.tmp 7) (.tmp 26) (by rfl) (w.heap.size) (by rfl) (by rfl) (P1) (ist.trans rfl)) ?_; with_reducible rfl
 (try simp only [Act.put, nA, nB, nC])
 refine tv ?_
 (try simp only [Act.put, nA, nB, nC])
 refine wpList_nil ?_
 clear P1
 have H2 := Lib.hid (HS.out.rowS (jpS S 7 (two2 x0 x1) 2))
 have O2 := Lib.hid (HO.out.rowk (k := w.heap.size) (arrv 24 (jpS S 7 (two2 x0 x1) 2)) (by omega))
 generalize w3.setRow w.heap.size (arrv 24 (jpS S 7 (two2 x0 x1) 2)) = W2 at *
 clear HS HO
 go_upto_region 2 with fail
 refine wp_region_lit ?_
 refine wpList_step (fun K hK => ?_)
 go_simp
 (refine (nothing_any _).mono ?_); rintro e w4 ⟨rfl, hb⟩; have H4 := Lib.hid (H2.out.down hb); have O4 := Lib.hid (O2.out.below hb); clear hb H2 O2
 (try dsimp only)
 (try simp only [Act.put, nA, nB, nC])
 refine hK _ _ ?_
 clear hK K
 refine wpList_val (v := ?_) rfl ?_ ?_
 rotate_left
 ·(refine Eq.trans (run_build_td (.tmp 28) 3 (by rfl) (by rfl) (by rfl)) ?_; with_reducible rfl)
 (try simp only [Act.put, nA, nB, nC])
 refine wpList_act (v := ?_) (w' := ?_) rfl ?_ ?_
 rotate_left 2
 ·(go_simp; (try (first | with_reducible rfl | (constructor <;> with_reducible rfl))))
 (try simp only [Act.put, nA, nB, nC])
 refine wpList_done (w' := ?_) rfl ?_ ?_
 rotate_left
 ·(refine Eq.trans (run_store_row 42 (.tmp 16) (.tmp 29) (by rfl) (w4.heap.size) (by rfl) (by rfl) (show Blk (w4.alloc (.cells #[.int .i64 0, .int .i64 0, .int .i64 0, .int .i64 0, .int .i64 0, .int .i64 0, .int .i64 0, .int .i64 0, .int .i64 0, .int .i64 0, .int .i64 0] 42)) w4.heap.size 42 11 (fun _ => 0) by rw [ztd]; exact Blk.new _ _ _ _) (itd.trans rfl)) ?_; with_reducible rfl)
 (try simp only [Act.put, nA, nB, nC])
 refine wpList_nil ?_
 have NB := Lib.hid (jp_told H4.out O4.out (Nat.le_refl _) (tdF dl0 3))
 generalize (w4.alloc (.cells #[.int .i64 0, .int .i64 0, .int .i64 0, .int .i64 0, .int .i64 0, .int .i64 0, .int .i64 0, .int .i64 0, .int .i64 0, .int .i64 0, .int .i64 0] 42)).setRow w4.heap.size (arrv 11 (tdF dl0 3)) = W4 at *
 obtain ⟨tb, htb⟩ : ∃ x, w4.heap.size = x := ⟨_, rfl⟩
 rw [htb] at NB ⊢
 clear htb H4 O4
 go_upto_region 3 with fail
 refine wp_region_lit ?_
 refine tv ?_
 (try simp only [Act.put, nA, nB, nC])
 refine tv ?_
 (try simp only [Act.put, nA, nB, nC])
 refine wpList_val (v := ?_) rfl ?_ ?_
 rotate_left
 ·(refine Eq.trans (run_slice_v (.tmp 31) (by rfl) tb 7 (by rfl)) ?_; with_reducible rfl)
 (try simp only [Act.put, nA, nB, nC])
 refine tv ?_
 (try simp only [Act.put, nA, nB, nC])
 (refine wpList_copy_mid rfl (.tmp 32) (.tmp 33) rfl tb 7 3 3 rfl 2 (mvD (keepF S) 7 (two2 x0 x1)) rfl NB.out.2.1 (by decide) (by decide) (by decide) 42 11 (tdF dl0 3) NB.out.2.2.1 (by decide) ?_)
 refine wpList_nil ?_
 obtain ⟨TD, hTD⟩ : ∃ x, midF (tdF dl0 3) 7 2 (mvD (keepF S) 7 (two2 x0 x1)) = x := ⟨_, rfl⟩
 rw [hTD]
 have HTD := Lib.hid hTD
 have N2 := Lib.hid (jp_set NB.out.1 NB.out.2.2.1 NB.out.2.2.2 TD)
 generalize W4.setRow tb (arrv 11 TD) = W5 at *
 clear NB hTD
 obtain ⟨MS, hMS⟩ : ∃ x, jpS S 7 (two2 x0 x1) 2 = x := ⟨_, rfl⟩
 obtain ⟨MH, hMH⟩ : ∃ x, jpH h S 7 (two2 x0 x1) 2 = x := ⟨_, rfl⟩
 rw [hMS, hMH] at N2
 have HMM := Lib.hid (And.intro hMS hMH)
 clear hMS hMH EM EH
 go_upto_region 4 with fail
 have HS := Lib.hid (jp_drew N2.out)
 clear N2
 refine wp_region_M (fun w' => Blk w' w.heap.size 23 24 MS ∧ Blk w' (w.heap.size + 1) 26 300 P ∧ Blk w' tb 42 11 TD) 10 (by kernel_rfl) ?_ (fun hHeld => ?_)
 ·exact ⟨HS.out.1.s, HS.out.1.p, HS.out.2.1⟩
 refine tl 0 (v := ?_) ?_ ?_
 rotate_left
 ·(intro wx hSw; refine Eq.trans (run_load_row 23 (.tmp 7) (by rfl) (w.heap.size) (by rfl) _ _ _ _ (hSw.1) Tryz.underlying23 rfl (ist.trans (by rw [arrv_size]))) ?_; with_reducible rfl)
 (try simp only [Act.put, nA, nB, nC])
 refine tk 1 ?_
 (try simp only [Act.put, nA, nB, nC])
 refine tl 2 (v := ?_) ?_ ?_
 rotate_left
 ·(intro wx hSw; refine Eq.trans (run_load_row 26 (.tmp 8) (by rfl) (w.heap.size + 1) (by rfl) _ _ _ _ (hSw.2.1) Tryz.underlying26 rfl (icov.trans (by rw [arrv_size]))) ?_; with_reducible rfl)
 (try simp only [Act.put, nA, nB, nC])
 refine tk 3 ?_
 (try simp only [Act.put, nA, nB, nC])
 refine tk 4 ?_
 (try simp only [Act.put, nA, nB, nC])
 refine tl 7 (v := ?_) ?_ ?_
 rotate_left
 ·(intro wx hSw; refine Eq.trans (run_load_row 42 (.tmp 16) (by rfl) (tb) (by rfl) _ _ _ _ (hSw.2.2) Tryz.underlying42 rfl (itd.trans (by rw [arrv_size]))) ?_; with_reducible rfl)
 (try simp only [Act.put, nA, nB, nC])
 refine wpAnyM_oneS 5 rfl (by kernel_rfl) (fun K hK => ?_)
 go_simp; have HL := Lib.hid (slc_v2 W5.drew v); have HU := Lib.hid (jp_down HS.out ((Below.refl _ _).alloc (Nat.le_refl _) (.cells #[.int .i64 v, .int .i64 v] 2))); clear HS; have HS := HU; clear HU
 clear hHeld
 refine hK.out _ _ ?_ (fun hHeld => ?_)
 ·exact ⟨HS.out.1.s, HS.out.1.p, HS.out.2.1⟩
 clear hK K
 (try simp only [Act.put, nA, nB, nC])
 refine wpAnyM_oneS 6 rfl (by kernel_rfl) (fun K hK => ?_)
 go_simp
 have RC := reset_any c MH P 7 _ 2 2 (fun _ => v) (W5.drew.alloc (.cells #[.int .i64 v, .int .i64 v] 2)) (HS.out.1.upd.cellc HC.out) ((HS.out.1.upd.frozen hcb).trans HF.out) HL.out (by decide) (by decide); (refine RC.mono ?_); rintro e w6 ⟨rfl, hu⟩; clear RC HL; have HU := Lib.hid (jp_upd HS.out hcb hu); clear HS hu; have HS := HU; clear HU; have HR := Lib.hid (jp_all HS.out.1 MS (stepF P (rtF 7 2) (rtQ 7 (fun _ => v) 2)) TD)
 (try dsimp only)
 (try simp only [Act.put, nA, nB, nC])
 clear hHeld
 refine hK.out _ _ ?_ (fun hHeld => ?_)
 ·exact ⟨HS.out.1.s, HS.out.1.p, HS.out.2.1⟩
 clear hK K
 (try simp only [Act.put, nA, nB, nC])
 clear hHeld
 refine wpAnyM_doneN 8 rfl (by kernel_rfl) (by rfl) (run_store_row 23 (.tmp 12) (.tmp 35) rfl _ rfl rfl HS.out.1.r0 ist) ?_ (fun hHeld => ?_)
 ·exact (jp_k0 HS.out.1 HS.out.2.1 HS.out.2.2 MS)
 (try simp only [Act.put, nA, nB, nC])
 clear hHeld
 refine wpAnyM_doneN 9 rfl (by kernel_rfl) (by rfl) (run_store_row 26 (.tmp 13) (.tmp 41) rfl _ rfl rfl HR.out.1 icov) ?_ (fun hHeld => ?_)
 ·exact (jp_k1 HS.out.1 HS.out.2.1 HS.out.2.2 MS _)
 (try simp only [Act.put, nA, nB, nC])
 refine wpAnyM_doneL 10 rfl (by kernel_rfl) (by rfl) (by kernel_rfl) (run_store_row 42 (.tmp 14) (.tmp 42) rfl _ rfl rfl HR.out.2.1 itd) ?_
 (try simp only [Act.put, nA, nB, nC])
 refine wpAnyM_done (by kernel_rfl) ?_ _
 go_wp2_with fail
 refine bodyPost_ret_by (results_rows3 Tryz.results10 _ _ (w.heap.size + 1 + 1) (w.heap.size + 1 + 1 + 1) (w.heap.size + 1 + 1 + 1 + 1) 23 26 42 (arrv 24 MS) (arrv 300 (stepF P (rtF 7 2) (rtQ 7 (fun _ => v) 2))) (arrv 11 TD) (0, 0) (0, 0) (0, 0) _ _ _ rfl HR.out.2.2.1 Tryz.underlying23 rfl (ist.trans (by rw [arrv_size])) rfl HR.out.2.2.2.1 Tryz.underlying26 rfl (icov.trans (by rw [arrv_size])) rfl HR.out.2.2.2.2.1 Tryz.underlying42 rfl (itd.trans (by rw [arrv_size]))) rfl ⟨?_, ?_⟩
 ·rw [HTD.out, HMM.out.1]
 ·rw [HMM.out.2]; exact HR.out.2.2.2.2.2
end Go.Proofs.YtgfklheepkgedaaGreat
/- Contract of reset.Height. -/
namespace Go.Proofs.YtgfklheepkgedaaGreat
open Go.RowKit
set_option maxRecDepth 100000
set_option maxHeartbeats 16000000 in
theorem hgt_any (c : Addr) (h : Bool) (S P : Nat → Int) (x0 v : Int) (w : World) (hc : w.cell? c = some (.bool h)) (hf : w.frozen? c = false) :
  Calls Tryz.prog 12 #[.pointer (some c), .agg (arrv 24 S), .agg (arrv 300 P), .int .i64 x0, .int .i64 v] w fun e w' =>
   e = .returned (.tuple #[.agg (arrv 24 (jpS S 9 (fun _ => x0) 1)), .agg (arrv 300 (stepF P (rtF 9 1) (rtQ 9 (fun _ => v) 1))), .agg (arrv 11 (midF (tdF dl0 4) 9 1 (mvD (keepF S) 9 (fun _ => x0))))]) ∧
   Upd c (jpH h S 9 (fun _ => x0) 1 || orB (rtB 9 (fun _ => v)) 1 || stepH P (rtF 9 1) (rtQ 9 (fun _ => v) 1)) w w' := by
 have hcb := World.block_lt_of_cell? w c hc
 have S0 := Lib.hid (jp_start c h S P w hc)
 have HC := Lib.hid hc
 have HF := Lib.hid hf
 clear hc hf
 have EM := Lib.hid (show keepF (mvS (keepF S) 9 (fun _ => x0) 1) = jpS S 9 (fun _ => x0) 1 from rfl)
 have EH := Lib.hid (show (h || keepH S || orB (mvB (keepF S) 9 (fun _ => x0)) 1 || keepH (mvS (keepF S) 9 (fun _ => x0) 1)) = jpH h S 9 (fun _ => x0) 1 from rfl)
 go_enter Tryz.func12, Tryz.ntmps12
 go_upto_region 1 with fail
 generalize ((((w.alloc (.cells (arrv 24 S) 23)).alloc (.cells (arrv 300 P) 26)).alloc (.cells #[.int .i64 0, .int .i64 0, .int .i64 0, .int .i64 0, .int .i64 0, .int .i64 0, .int .i64 0, .int .i64 0, .int .i64 0, .int .i64 0, .int .i64 0, .int .i64 0, .int .i64 0, .int .i64 0, .int .i64 0, .int .i64 0, .int .i64 0, .int .i64 0, .int .i64 0, .int .i64 0, .int .i64 0, .int .i64 0, .int .i64 0, .int .i64 0] 23)).alloc (.cells Tryz.zeroCells26 26)).alloc (.cells #[.int .i64 0, .int .i64 0, .int .i64 0, .int .i64 0, .int .i64 0, .int .i64 0, .int .i64 0, .int .i64 0, .int .i64 0, .int .i64 0, .int .i64 0] 42) = W0 at *
 have HS := S0
 clear S0
 have P0 := HS.out.s
 refine wp_region_lit ?_
 refine tv ?_
 (try simp only [Act.put, nA, nB, nC])
 refine tv ?_
 (try simp only [Act.put, nA, nB, nC])
 refine wpList_val (v := ?_) rfl ?_ ?_
 rotate_left
 ·refine Eq.trans (run_load_row 23 (.tmp 6) (by rfl) (w.heap.size) (by rfl) _ _ _ _ (P0) Tryz.underlying23 rfl (ist.trans (by rw [arrv_size]))) ?_; with_reducible rfl
 (try simp only [Act.put, nA, nB, nC])
 refine wpList_step (fun K hK => ?_)
 go_simp
 clear P0; (refine (keep_any c h S _ (HS.out.upd.cellc HC.out) ((HS.out.upd.frozen hcb).trans HF.out)).mono ?_); rintro e w1 ⟨rfl, hu⟩; have HU := Lib.hid (HS.out.upd' hcb hu); clear HS; have HS := HU; clear HU; clear hu
 (try dsimp only)
 (try simp only [Act.put, nA, nB, nC])
 refine hK _ _ ?_
 clear hK K
 refine tv ?_
 (try simp only [Act.put, nA, nB, nC])
 refine wpList_act (v := ?_) (w' := ?_) rfl ?_ ?_
 rotate_left 2
 ·(go_simp; (try (first | with_reducible rfl | (constructor <;> with_reducible rfl))))
 (try simp only [Act.put, nA, nB, nC])
 refine wpList_step (fun K hK => ?_)
 go_simp
 have HL := Lib.hid (slc_b1 w1 x0); have HU := Lib.hid (HS.out.down ((Below.refl _ _).alloc (Nat.le_refl _) (.cells #[.int .i64 x0] 2))); clear HS; have HS := HU; clear HU; have MC := moved_any c (h || keepH S) (keepF S) 9 _ 1 1 (fun _ => x0) (w1.alloc (.cells #[.int .i64 x0] 2)) (HS.out.upd.cellc HC.out) ((HS.out.upd.frozen hcb).trans HF.out) HL.out (by decide); have hz := HS.out.r2.lt; (rw [show ((9 : Nat) : Int) = 9 from rfl] at MC); (refine MC.mono ?_); (rw [EM.out, EH.out]); rintro e w3 ⟨v0, rfl, ho, hu⟩; clear MC; have HO := Lib.hid (ho.raise (B' := w.heap.size + 1 + 1 + 1 + 1 + 1) (by first | omega | (simp at hz ⊢; omega))); have HU := Lib.hid (HS.out.upd' hcb hu); clear HS hu ho hz; have HS := HU; clear HU; have P1 := HS.out.s
 (try dsimp only)
 (try simp only [Act.put, nA, nB, nC])
 refine hK _ _ ?_
 clear hK K
 refine tv ?_
 (try simp only [Act.put, nA, nB, nC])
 refine tv ?_
 (try simp only [Act.put, nA, nB, nC])
 refine tv ?_
 (try simp only [Act.put, nA, nB, nC])
 refine wpList_done (w' := ?_) rfl ?_ ?_
 rotate_left
 ·refine Eq.trans (run_store_row 23 (.tmp 6) (.tmp 23) (by rfl) (w.heap.size) (by rfl) (by rfl) (P1) (ist.trans rfl)) ?_; with_reducible rfl
 (try simp only [Act.put, nA, nB, nC])
 refine tv ?_
 (try simp only [Act.put, nA, nB, nC])
 refine wpList_nil ?_
 clear P1
 have H2 := Lib.hid (HS.out.rowS (jpS S 9 (fun _ => x0) 1))
 have O2 := Lib.hid (HO.out.rowk (k := w.heap.size) (arrv 24 (jpS S 9 (fun _ => x0) 1)) (by omega))
 generalize w3.setRow w.heap.size (arrv 24 (jpS S 9 (fun _ => x0) 1)) = W2 at *
 clear HS HO
 go_upto_region 2 with fail
 refine wp_region_lit ?_
 refine wpList_step (fun K hK => ?_)
 go_simp
 (refine (nothing_any _).mono ?_); rintro e w4 ⟨rfl, hb⟩; have H4 := Lib.hid (H2.out.down hb); have O4 := Lib.hid (O2.out.below hb); clear hb H2 O2
 (try dsimp only)
 (try simp only [Act.put, nA, nB, nC])
 refine hK _ _ ?_
 clear hK K
 refine wpList_val (v := ?_) rfl ?_ ?_
 rotate_left
 ·(refine Eq.trans (run_build_td (.tmp 25) 4 (by rfl) (by rfl) (by rfl)) ?_; with_reducible rfl)
 (try simp only [Act.put, nA, nB, nC])
 refine wpList_act (v := ?_) (w' := ?_) rfl ?_ ?_
 rotate_left 2
 ·(go_simp; (try (first | with_reducible rfl | (constructor <;> with_reducible rfl))))
 (try simp only [Act.put, nA, nB, nC])
 refine wpList_done (w' := ?_) rfl ?_ ?_
 rotate_left
 ·(refine Eq.trans (run_store_row 42 (.tmp 14) (.tmp 26) (by rfl) (w4.heap.size) (by rfl) (by rfl) (show Blk (w4.alloc (.cells #[.int .i64 0, .int .i64 0, .int .i64 0, .int .i64 0, .int .i64 0, .int .i64 0, .int .i64 0, .int .i64 0, .int .i64 0, .int .i64 0, .int .i64 0] 42)) w4.heap.size 42 11 (fun _ => 0) by rw [ztd]; exact Blk.new _ _ _ _) (itd.trans rfl)) ?_; with_reducible rfl)
 (try simp only [Act.put, nA, nB, nC])
 refine wpList_nil ?_
 have NB := Lib.hid (jp_told H4.out O4.out (Nat.le_refl _) (tdF dl0 4))
 generalize (w4.alloc (.cells #[.int .i64 0, .int .i64 0, .int .i64 0, .int .i64 0, .int .i64 0, .int .i64 0, .int .i64 0, .int .i64 0, .int .i64 0, .int .i64 0, .int .i64 0] 42)).setRow w4.heap.size (arrv 11 (tdF dl0 4)) = W4 at *
 obtain ⟨tb, htb⟩ : ∃ x, w4.heap.size = x := ⟨_, rfl⟩
 rw [htb] at NB ⊢
 clear htb H4 O4
 go_upto_region 3 with fail
 refine wp_region_lit ?_
 refine tv ?_
 (try simp only [Act.put, nA, nB, nC])
 refine tv ?_
 (try simp only [Act.put, nA, nB, nC])
 refine wpList_val (v := ?_) rfl ?_ ?_
 rotate_left
 ·(refine Eq.trans (run_slice_v2 (.tmp 28) (by rfl) (by rfl) tb 7 (by rfl)) ?_; with_reducible rfl)
 (try simp only [Act.put, nA, nB, nC])
 refine tv ?_
 (try simp only [Act.put, nA, nB, nC])
 (refine wpList_copy_mid rfl (.tmp 29) (.tmp 30) rfl tb 9 1 1 rfl 1 (mvD (keepF S) 9 (fun _ => x0)) rfl NB.out.2.1 (by decide) (by decide) (by decide) 42 11 (tdF dl0 4) NB.out.2.2.1 (by decide) ?_)
 refine wpList_nil ?_
 obtain ⟨TD, hTD⟩ : ∃ x, midF (tdF dl0 4) 9 1 (mvD (keepF S) 9 (fun _ => x0)) = x := ⟨_, rfl⟩
 rw [hTD]
 have HTD := Lib.hid hTD
 have N2 := Lib.hid (jp_set NB.out.1 NB.out.2.2.1 NB.out.2.2.2 TD)
 generalize W4.setRow tb (arrv 11 TD) = W5 at *
 clear NB hTD
 obtain ⟨MS, hMS⟩ : ∃ x, jpS S 9 (fun _ => x0) 1 = x := ⟨_, rfl⟩
 obtain ⟨MH, hMH⟩ : ∃ x, jpH h S 9 (fun _ => x0) 1 = x := ⟨_, rfl⟩
 rw [hMS, hMH] at N2
 have HMM := Lib.hid (And.intro hMS hMH)
 clear hMS hMH EM EH
 go_upto_region 4 with fail
 have HS := Lib.hid (jp_drew N2.out)
 clear N2
 refine wp_region_M (fun w' => Blk w' w.heap.size 23 24 MS ∧ Blk w' (w.heap.size + 1) 26 300 P ∧ Blk w' tb 42 11 TD) 9 (by kernel_rfl) ?_ (fun hHeld => ?_)
 ·exact ⟨HS.out.1.s, HS.out.1.p, HS.out.2.1⟩
 refine tl 0 (v := ?_) ?_ ?_
 rotate_left
 ·(intro wx hSw; refine Eq.trans (run_load_row 23 (.tmp 6) (by rfl) (w.heap.size) (by rfl) _ _ _ _ (hSw.1) Tryz.underlying23 rfl (ist.trans (by rw [arrv_size]))) ?_; with_reducible rfl)
 (try simp only [Act.put, nA, nB, nC])
 refine tk 1 ?_
 (try simp only [Act.put, nA, nB, nC])
 refine tl 2 (v := ?_) ?_ ?_
 rotate_left
 ·(intro wx hSw; refine Eq.trans (run_load_row 26 (.tmp 7) (by rfl) (w.heap.size + 1) (by rfl) _ _ _ _ (hSw.2.1) Tryz.underlying26 rfl (icov.trans (by rw [arrv_size]))) ?_; with_reducible rfl)
 (try simp only [Act.put, nA, nB, nC])
 refine tk 3 ?_
 (try simp only [Act.put, nA, nB, nC])
 refine tl 6 (v := ?_) ?_ ?_
 rotate_left
 ·(intro wx hSw; refine Eq.trans (run_load_row 42 (.tmp 14) (by rfl) (tb) (by rfl) _ _ _ _ (hSw.2.2) Tryz.underlying42 rfl (itd.trans (by rw [arrv_size]))) ?_; with_reducible rfl)
 (try simp only [Act.put, nA, nB, nC])
 refine wpAnyM_oneS 4 rfl (by kernel_rfl) (fun K hK => ?_)
 go_simp; have HL := Lib.hid (slc_v1 W5.drew v); have HU := Lib.hid (jp_down HS.out ((Below.refl _ _).alloc (Nat.le_refl _) (.cells #[.int .i64 v] 2))); clear HS; have HS := HU; clear HU
 clear hHeld
 refine hK.out _ _ ?_ (fun hHeld => ?_)
 ·exact ⟨HS.out.1.s, HS.out.1.p, HS.out.2.1⟩
 clear hK K
 (try simp only [Act.put, nA, nB, nC])
 refine wpAnyM_oneS 5 rfl (by kernel_rfl) (fun K hK => ?_)
 go_simp
 have RC := reset_any c MH P 9 _ 1 1 (fun _ => v) (W5.drew.alloc (.cells #[.int .i64 v] 2)) (HS.out.1.upd.cellc HC.out) ((HS.out.1.upd.frozen hcb).trans HF.out) HL.out (by decide) (by decide); (refine RC.mono ?_); rintro e w6 ⟨rfl, hu⟩; clear RC HL; have HU := Lib.hid (jp_upd HS.out hcb hu); clear HS hu; have HS := HU; clear HU; have HR := Lib.hid (jp_all HS.out.1 MS (stepF P (rtF 9 1) (rtQ 9 (fun _ => v) 1)) TD)
 (try dsimp only)
 (try simp only [Act.put, nA, nB, nC])
 clear hHeld
 refine hK.out _ _ ?_ (fun hHeld => ?_)
 ·exact ⟨HS.out.1.s, HS.out.1.p, HS.out.2.1⟩
 clear hK K
 (try simp only [Act.put, nA, nB, nC])
 clear hHeld
 refine wpAnyM_doneN 7 rfl (by kernel_rfl) (by rfl) (run_store_row 23 (.tmp 10) (.tmp 32) rfl _ rfl rfl HS.out.1.r0 ist) ?_ (fun hHeld => ?_)
 ·exact (jp_k0 HS.out.1 HS.out.2.1 HS.out.2.2 MS)
 (try simp only [Act.put, nA, nB, nC])
 clear hHeld
 refine wpAnyM_doneN 8 rfl (by kernel_rfl) (by rfl) (run_store_row 26 (.tmp 11) (.tmp 37) rfl _ rfl rfl HR.out.1 icov) ?_ (fun hHeld => ?_)
 ·exact (jp_k1 HS.out.1 HS.out.2.1 HS.out.2.2 MS _)
 (try simp only [Act.put, nA, nB, nC])
 refine wpAnyM_doneL 9 rfl (by kernel_rfl) (by rfl) (by kernel_rfl) (run_store_row 42 (.tmp 12) (.tmp 38) rfl _ rfl rfl HR.out.2.1 itd) ?_
 (try simp only [Act.put, nA, nB, nC])
 refine wpAnyM_done (by kernel_rfl) ?_ _
 go_wp2_with fail
 refine bodyPost_ret_by (results_rows3 Tryz.results12 _ _ (w.heap.size + 1 + 1) (w.heap.size + 1 + 1 + 1) (w.heap.size + 1 + 1 + 1 + 1) 23 26 42 (arrv 24 MS) (arrv 300 (stepF P (rtF 9 1) (rtQ 9 (fun _ => v) 1))) (arrv 11 TD) (0, 0) (0, 0) (0, 0) _ _ _ rfl HR.out.2.2.1 Tryz.underlying23 rfl (ist.trans (by rw [arrv_size])) rfl HR.out.2.2.2.1 Tryz.underlying26 rfl (icov.trans (by rw [arrv_size])) rfl HR.out.2.2.2.2.1 Tryz.underlying42 rfl (itd.trans (by rw [arrv_size]))) rfl ⟨?_, ?_⟩
 ·rw [HTD.out, HMM.out.1]
 ·rw [HMM.out.2]; exact HR.out.2.2.2.2.2
end Go.Proofs.YtgfklheepkgedaaGreat
/- The numbers of law 26's awake (closed plain laws). -/
namespace Go.Proofs.YtgfklheepkgedaaGreat
set_option maxRecDepth 100000
def aw0 : Nat → Int := fun i => if i = 0 then 1073741824 else 0
def aw1 : Nat → Int := fun i => if i = 0 then 1073741824 else if i = 9 then -1073741824 else 0
def aw2 : Nat → Int := fun i => if i = 0 then 1073741824 else if i = 9 then -1073741824 else if i = 4 then 1 else if i = 5 then 2 else if i = 6 then 3 else 0
def aw3 : Nat → Int := fun i => if i = 0 then 1073741824 else if i = 9 then -1073741824 else if i = 4 then 1 else if i = 5 then 2 else if i = 6 then 3 else if i = 7 then 4 else if i = 8 then 5 else 0
def tw1 : Nat → Int := fun i => if i = 0 then 1073741824 else if i = 9 then -1073741824 else if i = 10 then 4 else 0
def tw2 : Nat → Int := fun i => if i = 0 then 1073741824 else if i = 4 then 1 else if i = 5 then 2 else if i = 6 then 3 else if i = 10 then 2 else 0
def tw3 : Nat → Int := fun i => if i = 0 then 1073741824 else if i = 7 then 4 else if i = 8 then 5 else if i = 10 then 3 else 0
def tw4 : Nat → Int := fun i => if i = 0 then 1073741824 else if i = 10 then 1 else 0
def jw : Nat → Int := fun i => if i = 0 then 1073741824 else if i = 9 then -1073741824 else if i = 4 then 1 else if i = 5 then 2 else if i = 6 then 3 else if i = 7 then 4 else if i = 8 then 5 else 0
theorem aw_1 : arrv 24 (jpS aw0 9 (fun _ => -1073741824) 1) = arrv 24 aw1 ∧ arrv 11 (midF (tdF dl0 4) 9 1 (mvD (keepF aw0) 9 (fun _ => -1073741824))) = arrv 11 tw1 ∧ jpH false aw0 9 (fun _ => -1073741824) 1 = false :=
 ⟨arrv_congr (by decide +kernel), arrv_congr (by decide +kernel), by decide +kernel⟩
theorem aw_2 : arrv 24 (jpS aw1 4 (vc3 1 2 3) 3) = arrv 24 aw2 ∧ arrv 11 (midF (tdF dl0 2) 4 3 (mvD (keepF aw1) 4 (vc3 1 2 3))) = arrv 11 tw2 ∧ jpH false aw1 4 (vc3 1 2 3) 3 = false :=
 ⟨arrv_congr (by decide +kernel), arrv_congr (by decide +kernel), by decide +kernel⟩
theorem aw_3 : arrv 24 (jpS aw2 7 (two2 4 5) 2) = arrv 24 aw3 ∧ arrv 11 (midF (tdF dl0 3) 7 2 (mvD (keepF aw2) 7 (two2 4 5))) = arrv 11 tw3 ∧ jpH false aw2 7 (two2 4 5) 2 = false :=
 ⟨arrv_congr (by decide +kernel), arrv_congr (by decide +kernel), by decide +kernel⟩
theorem aw_4 : arrv 24 (ywS aw3 0) = arrv 24 aw3 ∧ arrv 11 (ywT 0) = arrv 11 tw4 ∧ ywH false aw3 0 = false :=
 ⟨arrv_congr (by decide +kernel), arrv_congr (by decide +kernel), by decide +kernel⟩
theorem aw_5 : arrv 10 (jnR (d4L tw1 tw2 tw3 tw4) 4) = arrv 10 jw ∧ jnH false (d4L tw1 tw2 tw3 tw4) 4 = false :=
 ⟨arrv_congr (by decide +kernel), by decide +kernel⟩
theorem aw_new : newH 1 (fun _ => 17592186044416) = false := by decide
theorem aw_diag : DiagF (newF 1 (fun _ => 17592186044416)) := by
 refine ⟨fun x hx => by unfold newF; rw [if_pos hx], fun i hi => ?_⟩
 unfold newF
 rw [if_neg (by omega)]
 split
 ·rw [show varV 17592186044416 = 17592186044416 by decide]; omega
 ·omega
/-- The factors behind the height's jump: no numbers in U, the height's variance 9. -/
theorem aw_q1 : ∃ q, stepF (newF 1 (fun _ => 17592186044416)) (rtF 9 1) (rtQ 9 (fun _ => 9) 1) = q ∧ DiagF q ∧ q (276 + 9) = 9 ∧ stepH (newF 1 (fun _ => 17592186044416)) (rtF 9 1) (rtQ 9 (fun _ => 9) 1) = false ∧ orB (rtB 9 (fun _ => 9)) 1 = false := by
 obtain ⟨h1, h2, h3, h4⟩ := reset_diag aw_diag (fr := 9) (n := 1) (L := fun _ => 9) (by decide) (fun k _ => by omega)
 exact ⟨_, rfl, h1, (h2 9 (by decide)).trans (by decide), h3, h4⟩
theorem aw_q2 {q : Nat → Int} (h : DiagF q) : (stepH q (rtF 4 3) (rtQ 4 (fun _ => 9) 3) = false ∧ orB (rtB 4 (fun _ => 9)) 3 = false) ∧ (stepH q (rtF 7 2) (rtQ 7 (fun _ => 9) 2) = false ∧ orB (rtB 7 (fun _ => 9)) 2 = false) ∧
  (stepH q (rtF 0 4) (rtQ 0 (fun _ => 9) 4) = false ∧ orB (rtB 0 (fun _ => 9)) 4 = false) := by
 have a := reset_diag h (fr := 4) (n := 3) (L := fun _ => 9) (by decide) (fun k _ => by omega)
 have b := reset_diag h (fr := 7) (n := 2) (L := fun _ => 9) (by decide) (fun k _ => by omega)
 have c := reset_diag h (fr := 0) (n := 4) (L := fun _ => 9) (by decide) (fun k _ => by omega)
 exact ⟨a.2.2, b.2.2, c.2.2⟩
end Go.Proofs.YtgfklheepkgedaaGreat
