/- Contracts of the program's functions and plain laws, part 25: they hold for all arguments. -/
import Derived.Test.YtgfklheepkgedaaGreatQ24
import Derived.Test.YtgfklheepkgedaaGreatQ14
import Derived.Test.YtgfklheepkgedaaGreatQ13
import Derived.Test.YtgfklheepkgedaaGreatQ04
/- The reference's Height (printed by wip/gen_rjumps.py). -/
namespace Go.Proofs.YtgfklheepkgedaaGreat
open Go.RowKit
open Go
set_option maxRecDepth 100000
set_option maxHeartbeats 16000000 in
theorem rhgt_any (c : Addr) (h : Bool) (S P : Nat → Int) (x0 : Int) (v : Int) (w : World) (hc : w.cell? c = some (.bool h)) (hf : w.frozen? c = false) :
  Calls Tryz.prog 13 #[.pointer (some c), .agg (arrv 24 S), .agg (arrv 300 P), .int .i64 x0, .int .i64 v] w fun e w' =>
   e = .returned (.tuple #[.agg (arrv 24 (jpS S 9 (fun _ => x0) 1)), .agg (arrv 300 (stepF P (rtF 9 1) (rtQ 9 (fun _ => v) 1))), .agg (arrv 10 (midF dl0 9 1 (mvD (keepF S) 9 (fun _ => x0))))]) ∧
   Upd c (jpH h S 9 (fun _ => x0) 1 || orB (rtB 9 (fun _ => v)) 1 || stepH P (rtF 9 1) (rtQ 9 (fun _ => v) 1)) w w' := by
 have L0 := Lib.hid (show LsR c h [⟨w.heap.size, 23, 24, S⟩, ⟨w.heap.size + 1, 26, 300, P⟩, ⟨w.heap.size + 1 + 1, 23, 24, fun _ => 0⟩, ⟨w.heap.size + 1 + 1 + 1, 26, 300, fun _ => 0⟩, ⟨w.heap.size + 1 + 1 + 1 + 1, 46, 10, fun _ => 0⟩] (w.heap.size + 1 + 1 + 1 + 1 + 1) w (((((w.alloc (.cells (arrv 24 S) 23)).alloc (.cells (arrv 300 P) 26)).alloc (.cells #[.int .i64 0, .int .i64 0, .int .i64 0, .int .i64 0, .int .i64 0, .int .i64 0, .int .i64 0, .int .i64 0, .int .i64 0, .int .i64 0, .int .i64 0, .int .i64 0, .int .i64 0, .int .i64 0, .int .i64 0, .int .i64 0, .int .i64 0, .int .i64 0, .int .i64 0, .int .i64 0, .int .i64 0, .int .i64 0, .int .i64 0, .int .i64 0] 23)).alloc (.cells Tryz.zeroCells26 26)).alloc (.cells #[.int .i64 0, .int .i64 0, .int .i64 0, .int .i64 0, .int .i64 0, .int .i64 0, .int .i64 0, .int .i64 0, .int .i64 0, .int .i64 0] 46)) by
  rw [zvec24, zcov, zdv]
  have := ((((((ls_nil hc hf).lay 23 24 S).lay 26 300 P).lay 23 24 (fun _ => 0)).lay 26 300 (fun _ => 0)).lay 46 10 (fun _ => 0))
  simp at this
  exact this.sub (by simp))
 clear hc hf
 go_enter Tryz.func13, Tryz.ntmps13
 go_upto_region 1 with fail
 generalize ((((w.alloc (.cells (arrv 24 S) 23)).alloc (.cells (arrv 300 P) 26)).alloc (.cells #[.int .i64 0, .int .i64 0, .int .i64 0, .int .i64 0, .int .i64 0, .int .i64 0, .int .i64 0, .int .i64 0, .int .i64 0, .int .i64 0, .int .i64 0, .int .i64 0, .int .i64 0, .int .i64 0, .int .i64 0, .int .i64 0, .int .i64 0, .int .i64 0, .int .i64 0, .int .i64 0, .int .i64 0, .int .i64 0, .int .i64 0, .int .i64 0] 23)).alloc (.cells Tryz.zeroCells26 26)).alloc (.cells #[.int .i64 0, .int .i64 0, .int .i64 0, .int .i64 0, .int .i64 0, .int .i64 0, .int .i64 0, .int .i64 0, .int .i64 0, .int .i64 0] 46) = W0 at *
 refine wp_region_lit ?_
 refine wpList_step (fun K hK => ?_)
 go_simp
 (refine (rnothing_any _).mono ?_); rintro e w1 ⟨rfl, hb⟩; have L1 := Lib.hid (L0.out.down hb); clear hb L0
 (try dsimp only)
 (try simp only [Act.put, nA, nB, nC])
 refine hK _ _ ?_
 clear hK K
 refine wpList_act (v := ?_) (w' := ?_) rfl ?_ ?_
 rotate_left 2
 ·(go_simp; (try (first | with_reducible rfl | (constructor <;> with_reducible rfl))))
 (try simp only [Act.put, nA, nB, nC])
 refine wpList_done (w' := ?_) rfl ?_ ?_
 rotate_left
 ·(refine Eq.trans (run_store_row 46 (.tmp 13) (.tmp 15) (by rfl) (w1.heap.size) (by rfl) (by rfl) (show Blk (w1.alloc (.cells #[.int .i64 0, .int .i64 0, .int .i64 0, .int .i64 0, .int .i64 0, .int .i64 0, .int .i64 0, .int .i64 0, .int .i64 0, .int .i64 0] 46)) w1.heap.size 46 10 (fun _ => 0) by rw [zdv]; exact Blk.new _ _ _ _) (irdl.trans rfl)) ?_; with_reducible rfl)
 (try simp only [Act.put, nA, nB, nC])
 refine wpList_nil ?_
 have M0 := L1.out.put 46 10 (fun _ => 0) dl0
 rw [← zdv] at M0
 have M1 := Lib.hid M0
 clear M0
 obtain ⟨tb, htb⟩ : ∃ x, w1.heap.size = x := ⟨_, rfl⟩
 have ht0 := L1.out.le
 rw [htb] at M1 ht0 ⊢
 generalize (w1.alloc (.cells #[.int .i64 0, .int .i64 0, .int .i64 0, .int .i64 0, .int .i64 0, .int .i64 0, .int .i64 0, .int .i64 0, .int .i64 0, .int .i64 0] 46)).setRow tb (arrv 10 dl0) = W1 at *
 clear L1 htb
 obtain ⟨KE, hKE⟩ : ∃ x, keepF S = x := ⟨_, rfl⟩
 have NK := Lib.hid hKE
 have EM := Lib.hid (show jpS S 9 (fun _ => x0) 1 = keepF (mvS KE 9 (fun _ => x0) 1) ∧ jpH h S 9 (fun _ => x0) 1 = (h || keepH S || orB (mvB KE 9 (fun _ => x0)) 1 || keepH (mvS KE 9 (fun _ => x0) 1)) ∧ midF dl0 9 1 (mvD (keepF S) 9 (fun _ => x0)) = midF dl0 9 1 (mvD KE 9 (fun _ => x0)) by rw [← hKE]; exact ⟨rfl, rfl, rfl⟩)
 clear hKE
 have HS := Lib.hid (M1.out.sub (E' := [⟨w.heap.size, 23, 24, S⟩, ⟨w.heap.size + 1, 26, 300, P⟩, ⟨w.heap.size + 1 + 1, 23, 24, fun _ => 0⟩, ⟨w.heap.size + 1 + 1 + 1, 26, 300, fun _ => 0⟩, ⟨w.heap.size + 1 + 1 + 1 + 1, 46, 10, fun _ => 0⟩, ⟨tb, 46, 10, dl0⟩]) (by simp))
 clear M1
 go_upto_region 2 with fail
 have P0 := HS.out.e0
 refine wp_region_lit ?_
 refine tv ?_
 (try simp only [Act.put, nA, nB, nC])
 refine tv ?_
 (try simp only [Act.put, nA, nB, nC])
 refine wpList_val (v := ?_) rfl ?_ ?_
 rotate_left
 ·refine Eq.trans (run_load_row 23 (.tmp 6) (by rfl) (w.heap.size) (by rfl) _ _ _ _ (P0) Tryz.underlying23 rfl (ist.trans (by rw [arrv_size]))) ?_; with_reducible rfl
 (try simp only [Act.put, nA, nB, nC])
 refine wpList_step (fun K hK => ?_)
 go_simp
 clear P0; (refine (rkeep16_any c h S _ HS.out.cell HS.out.free).mono ?_); (rw [NK.out]); rintro e w2 ⟨rfl, hu⟩; have HS2 := Lib.hid (HS.out.upd' hu); clear HS hu; have HS := HS2; clear HS2
 (try dsimp only)
 (try simp only [Act.put, nA, nB, nC])
 refine hK _ _ ?_
 clear hK K
 refine tv ?_
 (try simp only [Act.put, nA, nB, nC])
 refine wpList_act (v := ?_) (w' := ?_) rfl ?_ ?_
 rotate_left 2
 ·(go_simp; (try (first | with_reducible rfl | (constructor <;> with_reducible rfl))))
 (try simp only [Act.put, nA, nB, nC])
 refine wpList_step (fun K hK => ?_)
 go_simp
 have HL := Lib.hid (slc_b1 w2 x0); have HS2 := Lib.hid (HS.out.alloc (.cells #[.int .i64 x0] 2)); clear HS; have HS := HS2; clear HS2; have RC := rjump_any c (h || keepH S) KE 9 _ 1 1 (fun _ => x0) (w2.alloc (.cells #[.int .i64 x0] 2)) HS.out.cell HS.out.free HL.out (by decide); (rw [show ((9 : Nat) : Int) = 9 from rfl] at RC); have hzz := HS.out.le; have hyy := (HS.out.ex _ (.tail _ (.tail _ (.tail _ (.tail _ (.tail _ (.head _))))))).2.2; (refine RC.mono ?_); rintro e w3 ⟨v0, rfl, ho, hu⟩; obtain ⟨g0, cg0, rfl, hg1, hg2⟩ := tm_own ho (by decide); have HT := Lib.hid (show TmR g0 1 (mvD KE 9 (fun _ => x0)) w3 ∧ g0 ≠ w.heap.size ∧ g0 ≠ tb from ⟨hg2, by omega, by omega⟩); have HS2 := Lib.hid (HS.out.upd' hu); clear HS hu RC ho hg1 hg2 hzz hyy HL; have HS := HS2; clear HS2; have P1 := HS.out.e0
 (try dsimp only)
 (try simp only [Act.put, nA, nB, nC])
 refine hK _ _ ?_
 clear hK K
 refine tv ?_
 (try simp only [Act.put, nA, nB, nC])
 refine tv ?_
 (try simp only [Act.put, nA, nB, nC])
 refine tv ?_
 (try simp only [Act.put, nA, nB, nC])
 refine wpList_done (w' := ?_) rfl ?_ ?_
 rotate_left
 ·refine Eq.trans (run_store_row 23 (.tmp 6) (.tmp 24) (by rfl) (w.heap.size) (by rfl) (by rfl) (P1) (ist.trans rfl)) ?_; with_reducible rfl
 (try simp only [Act.put, nA, nB, nC])
 refine tv ?_
 (try simp only [Act.put, nA, nB, nC])
 refine wpList_nil ?_
 clear P1
 have M2 := Lib.hid (HS.out.row (by simp; omega) (mvS KE 9 (fun _ => x0) 1))
 have T2 := Lib.hid (And.intro (HT.out.1.row w.heap.size (arrv 24 (mvS KE 9 (fun _ => x0) 1)) HT.out.2.1) HT.out.2.2)
 clear HS HT
 generalize w3.setRow w.heap.size (arrv 24 (mvS KE 9 (fun _ => x0) 1)) = W2 at *
 go_upto_region 3 with fail
 have HS := M2
 have HT := T2
 clear M2 T2
 have t0 : W2.cell? ⟨g0, 0, none⟩ = some (.int .i64 (mvD KE 9 (fun _ => x0) 0)) := HT.out.1.2 0 (by decide)
 refine wp_region_lit ?_
 refine tv ?_
 (try simp only [Act.put, nA, nB, nC])
 refine tv ?_
 (try simp only [Act.put, nA, nB, nC])
 refine wpList_val (v := ?_) rfl ?_ ?_
 rotate_left
 ·(go_simp; (try with_reducible rfl))
 (try simp only [Act.put, nA, nB, nC])
 refine wpList_val (v := ?_) rfl ?_ ?_
 rotate_left
 ·(refine Eq.trans (run_build_rv3 (.const (.int .i64 0)) (.const (.int .i64 0)) (.tmp 28) (by rfl) (by rfl) (by rfl) (by rfl)) ?_; with_reducible rfl)
 (try simp only [Act.put, nA, nB, nC])
 refine tv ?_
 (try simp only [Act.put, nA, nB, nC])
 refine wpList_done (w' := ?_) rfl ?_ ?_
 rotate_left
 ·(refine Eq.trans (run_store_sub 44 (.tmp 30) (.tmp 29) (by rfl) tb 7 (by rfl) (by rfl) HS.out.e5 (by decide) irv) ?_; with_reducible rfl)
 (try simp only [Act.put, nA, nB, nC])
 refine wpList_nil ?_
 clear t0
 generalize W2 = WX at *
 have M3 := HS.out.sub (E' := [⟨w.heap.size + 1 + 1, 23, 24, fun _ => 0⟩, ⟨w.heap.size + 1 + 1 + 1, 26, 300, fun _ => 0⟩, ⟨w.heap.size + 1 + 1 + 1 + 1, 46, 10, fun _ => 0⟩, ⟨w.heap.size, 23, 24, mvS KE 9 (fun _ => x0) 1⟩, ⟨w.heap.size + 1, 26, 300, P⟩, ⟨tb, 46, 10, dl0⟩]) (by simp)
 clear HS HT
 rw [mid_h1 (mvD KE 9 (fun _ => x0))]
 have M5 := Lib.hid (((M3.sub (E' := [⟨tb, 46, 10, dl0⟩, ⟨w.heap.size + 1 + 1, 23, 24, fun _ => 0⟩, ⟨w.heap.size + 1 + 1 + 1, 26, 300, fun _ => 0⟩, ⟨w.heap.size + 1 + 1 + 1 + 1, 46, 10, fun _ => 0⟩, ⟨w.heap.size, 23, 24, mvS KE 9 (fun _ => x0) 1⟩, ⟨w.heap.size + 1, 26, 300, P⟩]) (by simp)).row (by simp; omega) (midF dl0 9 1 (mvD KE 9 (fun _ => x0)))).sub (E' := [⟨w.heap.size + 1 + 1, 23, 24, fun _ => 0⟩, ⟨w.heap.size + 1 + 1 + 1, 26, 300, fun _ => 0⟩, ⟨w.heap.size + 1 + 1 + 1 + 1, 46, 10, fun _ => 0⟩, ⟨w.heap.size, 23, 24, mvS KE 9 (fun _ => x0) 1⟩, ⟨w.heap.size + 1, 26, 300, P⟩, ⟨tb, 46, 10, midF dl0 9 1 (mvD KE 9 (fun _ => x0))⟩]) (by simp))
 clear M3
 generalize WX.setRow tb (arrv 10 (midF dl0 9 1 (mvD KE 9 (fun _ => x0)))) = W3 at *
 obtain ⟨MS, hMS⟩ : ∃ x, mvS KE 9 (fun _ => x0) 1 = x := ⟨_, rfl⟩
 rw [hMS] at M5 EM
 clear hMS
 obtain ⟨H3, hH3⟩ : ∃ x, (h || keepH S || orB (mvB KE 9 (fun _ => x0)) 1) = x := ⟨_, rfl⟩
 rw [hH3] at M5 EM
 clear hH3
 obtain ⟨TD, hTD⟩ : ∃ x, midF dl0 9 1 (mvD KE 9 (fun _ => x0)) = x := ⟨_, rfl⟩
 rw [hTD] at M5 EM
 clear hTD
 obtain ⟨RV, hRV⟩ : ∃ x, stepF P (rtF 9 1) (rtQ 9 (fun _ => v) 1) = x := ⟨_, rfl⟩
 have NR := Lib.hid hRV
 obtain ⟨KM, hKM⟩ : ∃ x, keepF MS = x := ⟨_, rfl⟩
 have NM := Lib.hid hKM
 clear hRV hKM
 go_upto_region 4 with fail
 have HS := Lib.hid M5.out.drew
 clear M5
 (try simp only [Act.put])
 refine wp_region_M (fun w' => Blk w' (w.heap.size) 23 24 MS ∧ Blk w' (w.heap.size + 1) 26 300 P ∧ Blk w' tb 46 10 TD) 11 (by kernel_rfl) ?_ (fun hHeld => ?_)
 ·first | exact rk3 HS.out | exact rkR (rk3 HS.out) _ (by omega) (by omega) (by omega) | exact rkR (rkR (rk3 HS.out) _ (by omega) (by omega) (by omega)) _ (by omega) (by omega) (by omega)
 refine tk 0 ?_
 (try simp only [Act.put, nA, nB, nC])
 refine tl 1 (v := ?_) ?_ ?_
 rotate_left
 ·(intro wx hSw; refine Eq.trans (run_load_row 23 (.tmp 6) (by rfl) (w.heap.size) (by rfl) _ _ _ _ (hSw.1) Tryz.underlying23 rfl (ist.trans (by rw [arrv_size]))) ?_; with_reducible rfl)
 (try simp only [Act.put, nA, nB, nC])
 refine tk 3 ?_
 (try simp only [Act.put, nA, nB, nC])
 refine tl 4 (v := ?_) ?_ ?_
 rotate_left
 ·(intro wx hSw; refine Eq.trans (run_load_row 26 (.tmp 7) (by rfl) (w.heap.size + 1) (by rfl) _ _ _ _ (hSw.2.1) Tryz.underlying26 rfl (icov.trans (by rw [arrv_size]))) ?_; with_reducible rfl)
 (try simp only [Act.put, nA, nB, nC])
 refine tk 5 ?_
 (try simp only [Act.put, nA, nB, nC])
 refine tl 8 (v := ?_) ?_ ?_
 rotate_left
 ·(intro wx hSw; refine Eq.trans (run_load_row 46 (.tmp 13) (by rfl) tb (by rfl) _ _ _ _ hSw.2.2 Tryz.underlying46 rfl (irdl.trans (by rw [arrv_size]))) ?_; with_reducible rfl)
 (try simp only [Act.put, nA, nB, nC])
 refine wpAnyM_oneS 2 rfl (by kernel_rfl) (fun K hK => ?_)
 go_simp
 (refine (rkeep16_any c _ MS _ HS.out.cell HS.out.free).mono ?_); (rw [NM.out]); rintro e w6 ⟨rfl, hu⟩; (try (have HT2 := Lib.hid (And.intro (HT.out.1.upd hu HT.out.2) HT.out.2); clear HT; have HT := HT2; clear HT2)); have HS2 := Lib.hid (HS.out.upd' hu); clear HS hu; have HS := HS2; clear HS2
 (try dsimp only)
 (try simp only [Act.put, nA, nB, nC])
 clear hHeld
 refine hK.out _ _ ?_ (fun hHeld => ?_)
 ·first | exact rk3 HS.out | exact rkR (rk3 HS.out) _ (by omega) (by omega) (by omega) | exact rkR (rkR (rk3 HS.out) _ (by omega) (by omega) (by omega)) _ (by omega) (by omega) (by omega)
 clear hK K
 (try simp only [Act.put, nA, nB, nC])
 refine wpAnyM_oneS 6 rfl (by kernel_rfl) (fun K hK => ?_)
 go_simp
 (refine (rtimes_any v 1 _ (by decide)).mono ?_); rintro e w7 ⟨u, rfl, ho, hb⟩; have hzz := HS.out.le; have hyy := HS.out.lim; have hxx := HS.out.cb; obtain ⟨g, cg, rfl, hg1, hg2⟩ := tm_own ho (by decide); have HT := Lib.hid (And.intro hg2 (show g ≠ c.block by omega)); have HS2 := Lib.hid (HS.out.down hb); clear HS hb ho hg1 hg2 hzz hyy hxx; have HS := HS2; clear HS2
 (try dsimp only)
 (try simp only [Act.put, nA, nB, nC])
 clear hHeld
 refine hK.out _ _ ?_ (fun hHeld => ?_)
 ·first | exact rk3 HS.out | exact rkR (rk3 HS.out) _ (by omega) (by omega) (by omega) | exact rkR (rkR (rk3 HS.out) _ (by omega) (by omega) (by omega)) _ (by omega) (by omega) (by omega)
 clear hK K
 (try simp only [Act.put, nA, nB, nC])
 refine wpAnyM_oneS 7 rfl (by kernel_rfl) (fun K hK => ?_)
 go_simp
 (refine (rreset_any c _ P 9 _ 1 _ (fun _ => v) _ HS.out.cell HS.out.free HT.out.1.slc (by decide) (by decide)).mono ?_); (rw [NR.out]); rintro e w8 ⟨rfl, hu⟩; clear HT; have HS2 := Lib.hid (HS.out.upd' hu); clear HS hu; have HS := HS2; clear HS2
 (try dsimp only)
 (try simp only [Act.put, nA, nB, nC])
 clear hHeld
 refine hK.out _ _ ?_ (fun hHeld => ?_)
 ·first | exact rk3 HS.out | exact rkR (rk3 HS.out) _ (by omega) (by omega) (by omega) | exact rkR (rkR (rk3 HS.out) _ (by omega) (by omega) (by omega)) _ (by omega) (by omega) (by omega)
 clear hK K
 (try simp only [Act.put, nA, nB, nC])
 clear hHeld
 refine wpAnyM_doneN 9 rfl (by kernel_rfl) (by rfl) (run_store_row 23 (.tmp 10) (.tmp 33) rfl _ rfl rfl HS.out.e0 ist) ?_ (fun hHeld => ?_)
 ·first | exact rk3 HS.out | exact rkR (rk3 HS.out) _ (by omega) (by omega) (by omega) | exact rkR (rkR (rk3 HS.out) _ (by omega) (by omega) (by omega)) _ (by omega) (by omega) (by omega)
 (try simp only [Act.put, nA, nB, nC])
 clear hHeld
 refine wpAnyM_doneN 10 rfl (by kernel_rfl) (by rfl) (run_store_row 26 (.tmp 11) (.tmp 38) rfl _ rfl rfl (HS.out.e1.setRow_other _ (by omega)) icov) ?_ (fun hHeld => ?_)
 ·first | exact rk3 HS.out | exact rkR (rk3 HS.out) _ (by omega) (by omega) (by omega) | exact rkR (rkR (rk3 HS.out) _ (by omega) (by omega) (by omega)) _ (by omega) (by omega) (by omega)
 (try simp only [Act.put, nA, nB, nC])
 refine wpAnyM_doneL 11 rfl (by kernel_rfl) (by rfl) (by kernel_rfl) (run_store_row 46 (.tmp 12) (.tmp 39) rfl _ rfl rfl ((HS.out.e2.setRow_other _ (by omega)).setRow_other _ (by omega)) irdl) ?_
 (try simp only [Act.put, nA, nB, nC])
 refine wpAnyM_done (by kernel_rfl) ?_ _
 (have HR := Lib.hid (ls_row3 (F' := KM) (G' := RV) (K' := TD) HS.out (by omega) (by omega) (by omega)); go_wp2_with fail; refine bodyPost_ret_by (results_rows3 Tryz.results13 _ _ (w.heap.size + 1 + 1) (w.heap.size + 1 + 1 + 1) (w.heap.size + 1 + 1 + 1 + 1) 23 26 46 (arrv 24 KM) (arrv 300 RV) (arrv 10 TD) (0, 0) (0, 0) (0, 0) _ _ _ rfl HR.out.1 Tryz.underlying23 rfl (ist.trans (by rw [arrv_size])) rfl HR.out.2.1 Tryz.underlying26 rfl (icov.trans (by rw [arrv_size])) rfl HR.out.2.2.1 Tryz.underlying46 rfl (irdl.trans (by rw [arrv_size]))) rfl ⟨by rw [EM.out.1, EM.out.2.2, NM.out, NR.out], by rw [EM.out.2.1]; (first | exact HR.out.2.2.2 | (rw [rj_flag]; exact HR.out.2.2.2))⟩)
end Go.Proofs.YtgfklheepkgedaaGreat
/- The reference's Yaw (printed by wip/gen_rjumps.py). -/
namespace Go.Proofs.YtgfklheepkgedaaGreat
open Go.RowKit
open Go
set_option maxRecDepth 100000
set_option maxHeartbeats 16000000 in
theorem ryaw_any (c : Addr) (h : Bool) (S P : Nat → Int) (a v : Int) (w : World) (hc : w.cell? c = some (.bool h)) (hf : w.frozen? c = false) :
  Calls Tryz.prog 7 #[.pointer (some c), .agg (arrv 24 S), .agg (arrv 300 P), .int .i64 a, .int .i64 v] w fun e w' =>
   e = .returned (.tuple #[.agg (arrv 24 (ywS S a)), .agg (arrv 300 (stepF P (rtF 0 4) (rtQ 0 (fun _ => v) 4))), .agg (arrv 10 (putF dl0 0 4 (fyV a)))]) ∧
   Upd c (ywH h S a || orB (rtB 0 (fun _ => v)) 4 || stepH P (rtF 0 4) (rtQ 0 (fun _ => v) 4)) w w' := by
 have L0 := Lib.hid (show LsR c h [⟨w.heap.size, 23, 24, S⟩, ⟨w.heap.size + 1, 26, 300, P⟩, ⟨w.heap.size + 1 + 1, 23, 24, fun _ => 0⟩, ⟨w.heap.size + 1 + 1 + 1, 26, 300, fun _ => 0⟩, ⟨w.heap.size + 1 + 1 + 1 + 1, 46, 10, fun _ => 0⟩] (w.heap.size + 1 + 1 + 1 + 1 + 1) w (((((w.alloc (.cells (arrv 24 S) 23)).alloc (.cells (arrv 300 P) 26)).alloc (.cells #[.int .i64 0, .int .i64 0, .int .i64 0, .int .i64 0, .int .i64 0, .int .i64 0, .int .i64 0, .int .i64 0, .int .i64 0, .int .i64 0, .int .i64 0, .int .i64 0, .int .i64 0, .int .i64 0, .int .i64 0, .int .i64 0, .int .i64 0, .int .i64 0, .int .i64 0, .int .i64 0, .int .i64 0, .int .i64 0, .int .i64 0, .int .i64 0] 23)).alloc (.cells Tryz.zeroCells26 26)).alloc (.cells #[.int .i64 0, .int .i64 0, .int .i64 0, .int .i64 0, .int .i64 0, .int .i64 0, .int .i64 0, .int .i64 0, .int .i64 0, .int .i64 0] 46)) by
  rw [zvec24, zcov, zdv]
  have := (((((ls_nil hc hf).lay 23 24 S).lay 26 300 P).lay 23 24 (fun _ => 0)).lay 26 300 (fun _ => 0)).lay 46 10 (fun _ => 0)
  simp at this
  exact this.sub (by simp))
 clear hc hf
 obtain ⟨KE, hKE⟩ : ∃ x, keepF S = x := ⟨_, rfl⟩
 obtain ⟨Y, hY⟩ : ∃ x, fyV a = x := ⟨_, rfl⟩
 obtain ⟨M, hM⟩ : ∃ x, qmV Y KE = x := ⟨_, rfl⟩
 obtain ⟨U, hU⟩ : ∃ x, uniV M = x := ⟨_, rfl⟩
 obtain ⟨V, hV⟩ : ∃ x, withF KE 0 4 U = x := ⟨_, rfl⟩
 obtain ⟨TD, hTD⟩ : ∃ x, putF dl0 0 4 Y = x := ⟨_, rfl⟩
 have EL := Lib.hid (show arrv 4 (fun i => TD i) = arrv 4 Y from arrv_congr fun i hi => by rw [← hTD]; unfold putF; rw [if_pos (by omega)]; congr 1)
 have EM := Lib.hid (show ywS S a = keepF V ∧ ywH h S a = (h || keepH S || fyH a || qmH Y KE || uniH M || keepH V) ∧ putF dl0 0 4 (fyV a) = TD by
  unfold ywS ywH ywQ; rw [hKE, hY, hM, hU, hV, hTD]; exact ⟨rfl, rfl, rfl⟩)
 have NK := Lib.hid hKE
 have NY := Lib.hid hY
 have NM1 := Lib.hid hM
 have NU := Lib.hid hU
 have NV := Lib.hid hV
 have NT := Lib.hid hTD
 clear hKE hY hM hU hV hTD
 go_enter Tryz.func7, Tryz.ntmps7
 go_upto_region 1 with fail
 generalize ((((w.alloc (.cells (arrv 24 S) 23)).alloc (.cells (arrv 300 P) 26)).alloc (.cells #[.int .i64 0, .int .i64 0, .int .i64 0, .int .i64 0, .int .i64 0, .int .i64 0, .int .i64 0, .int .i64 0, .int .i64 0, .int .i64 0, .int .i64 0, .int .i64 0, .int .i64 0, .int .i64 0, .int .i64 0, .int .i64 0, .int .i64 0, .int .i64 0, .int .i64 0, .int .i64 0, .int .i64 0, .int .i64 0, .int .i64 0, .int .i64 0] 23)).alloc (.cells Tryz.zeroCells26 26)).alloc (.cells #[.int .i64 0, .int .i64 0, .int .i64 0, .int .i64 0, .int .i64 0, .int .i64 0, .int .i64 0, .int .i64 0, .int .i64 0, .int .i64 0] 46) = W0 at *
 have P0 := L0.out.e0
 refine wp_region_lit ?_
 refine tv ?_
 (try simp only [Act.put, nA, nB, nC])
 refine wpList_val (v := ?_) rfl ?_ ?_
 rotate_left
 ·refine Eq.trans (run_load_row 23 (.tmp 6) (by rfl) (w.heap.size) (by rfl) _ _ _ _ (P0) Tryz.underlying23 rfl (ist.trans (by rw [arrv_size]))) ?_; with_reducible rfl
 (try simp only [Act.put, nA, nB, nC])
 refine wpList_step (fun K hK => ?_)
 go_simp
 clear P0; (refine (rkeep16_any c h S _ L0.out.cell L0.out.free).mono ?_); (rw [NK.out]); rintro e w1 ⟨rfl, hu⟩; have HS := Lib.hid (L0.out.upd' hu); clear L0 hu; have P1 := HS.out.e0
 (try dsimp only)
 (try simp only [Act.put, nA, nB, nC])
 refine hK _ _ ?_
 clear hK K
 refine wpList_done (w' := ?_) rfl ?_ ?_
 rotate_left
 ·refine Eq.trans (run_store_row 23 (.tmp 6) (.tmp 18) (by rfl) (w.heap.size) (by rfl) (by rfl) (P1) (ist.trans rfl)) ?_; with_reducible rfl
 (try simp only [Act.put, nA, nB, nC])
 refine wpList_nil ?_
 have H1 := Lib.hid (HS.out.row (by simp; omega) KE)
 generalize w1.setRow w.heap.size (arrv 24 KE) = W1 at *
 clear P1 HS
 go_upto_region 2 with fail
 refine wp_region_lit ?_
 refine wpList_step (fun K hK => ?_)
 go_simp
 (refine (rnothing_any _).mono ?_); rintro e w2 ⟨rfl, hb⟩; have L1 := Lib.hid (H1.out.down hb); clear hb H1
 (try dsimp only)
 (try simp only [Act.put, nA, nB, nC])
 refine hK _ _ ?_
 clear hK K
 refine wpList_act (v := ?_) (w' := ?_) rfl ?_ ?_
 rotate_left 2
 ·(go_simp; (try (first | with_reducible rfl | (constructor <;> with_reducible rfl))))
 (try simp only [Act.put, nA, nB, nC])
 refine wpList_done (w' := ?_) rfl ?_ ?_
 rotate_left
 ·(refine Eq.trans (run_store_row 46 (.tmp 13) (.tmp 19) (by rfl) (w2.heap.size) (by rfl) (by rfl) (show Blk (w2.alloc (.cells #[.int .i64 0, .int .i64 0, .int .i64 0, .int .i64 0, .int .i64 0, .int .i64 0, .int .i64 0, .int .i64 0, .int .i64 0, .int .i64 0] 46)) w2.heap.size 46 10 (fun _ => 0) by rw [zdv]; exact Blk.new _ _ _ _) (irdl.trans rfl)) ?_; with_reducible rfl)
 (try simp only [Act.put, nA, nB, nC])
 refine wpList_nil ?_
 have M0 := L1.out.put 46 10 (fun _ => 0) dl0
 rw [← zdv] at M0
 have M1 := Lib.hid M0
 clear M0
 obtain ⟨tb, htb⟩ : ∃ x, w2.heap.size = x := ⟨_, rfl⟩
 have ht0 := L1.out.le
 rw [htb] at M1 ht0 ⊢
 generalize (w2.alloc (.cells #[.int .i64 0, .int .i64 0, .int .i64 0, .int .i64 0, .int .i64 0, .int .i64 0, .int .i64 0, .int .i64 0, .int .i64 0, .int .i64 0] 46)).setRow tb (arrv 10 dl0) = W2 at *
 clear L1 htb
 go_upto_region 3 with fail
 have HS := M1
 clear M1
 refine wp_region_lit ?_
 refine tv ?_
 (try simp only [Act.put, nA, nB, nC])
 refine tv ?_
 (try simp only [Act.put, nA, nB, nC])
 refine wpList_step (fun K hK => ?_)
 go_simp
 (refine (rfromyaw_any c _ a _ HS.out.cell HS.out.free).mono ?_); (rw [NY.out]); rintro e w3 ⟨rfl, hu⟩; have HS2 := Lib.hid (HS.out.upd' hu); clear HS hu; have HS := HS2; clear HS2; have P1 := HS.out.e0
 (try dsimp only)
 (try simp only [Act.put, nA, nB, nC])
 refine hK _ _ ?_
 clear hK K
 refine tv ?_
 (try simp only [Act.put, nA, nB, nC])
 refine wpList_done (w' := ?_) rfl ?_ ?_
 rotate_left
 ·(refine Eq.trans (run_store_sub 43 (.tmp 23) (.tmp 22) (by rfl) tb 0 (by rfl) (by rfl) P1 (by decide) irq) ?_; with_reducible rfl)
 (try simp only [Act.put, nA, nB, nC])
 refine wpList_nil ?_
 rw [NT.out]
 clear P1
 have H3 := Lib.hid ((HS.out.row (by simp; omega) TD).sub (E' := [⟨w.heap.size, 23, 24, KE⟩, ⟨w.heap.size + 1, 26, 300, P⟩, ⟨w.heap.size + 1 + 1, 23, 24, fun _ => 0⟩, ⟨w.heap.size + 1 + 1 + 1, 26, 300, fun _ => 0⟩, ⟨w.heap.size + 1 + 1 + 1 + 1, 46, 10, fun _ => 0⟩, ⟨tb, 46, 10, TD⟩]) (by simp))
 generalize w3.setRow tb (arrv 10 TD) = W3 at *
 clear HS
 go_upto_region 4 with fail
 have HS := Lib.hid H3.out.drew
 clear H3
 go_cut [14] from 24 to 31 (fun s14 wx => ∃ b tp, s14 = .pointer (some ⟨b, 0, none⟩) ∧ tb < b ∧ Hid (LsR c (h || keepH S || fyH a || qmH Y KE || uniH M) [⟨b, 43, 4, U⟩, ⟨w.heap.size, 23, 24, KE⟩, ⟨w.heap.size + 1, 26, 300, P⟩, ⟨w.heap.size + 1 + 1, 23, 24, fun _ => 0⟩, ⟨w.heap.size + 1 + 1 + 1, 26, 300, fun _ => 0⟩, ⟨w.heap.size + 1 + 1 + 1 + 1, 46, 10, fun _ => 0⟩, ⟨tb, 46, 10, TD⟩] tp w wx))
 case first =>
  (try simp only [Act.put])
  refine wp_region_M (fun w' => Blk w' w.heap.size 23 24 KE ∧ Blk w' tb 46 10 TD) 9 (by kernel_rfl) ?_ (fun hHeld => ?_)
  ·exact ⟨HS.out.e0, HS.out.e5⟩
  refine tk 0 ?_
  (try simp only [Act.put, nA, nB, nC])
  refine tk 1 ?_
  (try simp only [Act.put, nA, nB, nC])
  refine tk 2 ?_
  (try simp only [Act.put, nA, nB, nC])
  refine tl 3 (v := ?_) ?_ ?_
  rotate_left
  ·(intro wx hSw; refine Eq.trans (run_load_sub 43 (.tmp 26) (by rfl) tb 0 4 (by rfl) hSw.2 (by decide) _ Tryz.underlying43 rfl irq) ?_; with_reducible rfl)
  (try simp only [Act.put, nA, nB, nC])
  refine tl 4 (v := ?_) ?_ ?_
  rotate_left
  ·(intro wx hSw; refine Eq.trans (run_load_row 23 (.tmp 6) (by rfl) (w.heap.size) (by rfl) _ _ _ _ (hSw.1) Tryz.underlying23 rfl (ist.trans (by rw [arrv_size]))) ?_; with_reducible rfl)
  (try simp only [Act.put, nA, nB, nC])
  refine wpAnyM_twoS 5 8 rfl rfl (by kernel_rfl) (fun K hK => ?_) (fun K hK => ?_)
  ·go_simp
   (refine (ratt_any KE _).mono ?_); rintro e w4 ⟨rfl, hb⟩; have HS2 := Lib.hid (HS.out.down hb); clear HS; have HS := HS2; clear HS2; (try (have HA2 := Lib.hid (And.intro (HA.out.1.below hb) HA.out.2); clear HA; have HA := HA2; clear HA2)); clear hb
   (try dsimp only)
   (try simp only [Act.put, nA, nB, nC])
   clear hHeld
   refine hK.out _ _ ?_ (fun hHeld => ?_)
   ·exact ⟨HS.out.e0, HS.out.e5⟩
   clear hK K
   (try simp only [Act.put, nA, nB, nC])
   refine wpAnyM_twoS 6 8 rfl rfl (by kernel_rfl) (fun K hK => ?_) (fun K hK => ?_)
   ·go_simp
    (rw [EL.out]); (refine (rqmul_any c _ Y KE _ HS.out.cell HS.out.free).mono ?_); (rw [NM1.out]); rintro e w5 ⟨rfl, hu⟩; have hxx := HS.out.cb; have hyy := HS.out.lim; have HS2 := Lib.hid (HS.out.upd' hu); clear HS; have HS := HS2; clear HS2; (try (have HA2 := Lib.hid (And.intro (HA.out.1.upd hu (by have := HA.out.2; omega)) HA.out.2); clear HA; have HA := HA2; clear HA2)); clear hu hxx hyy
    (try dsimp only)
    (try simp only [Act.put, nA, nB, nC])
    clear hHeld
    refine hK.out _ _ ?_ (fun hHeld => ?_)
    ·exact ⟨HS.out.e0, HS.out.e5⟩
    clear hK K
    (try simp only [Act.put, nA, nB, nC])
    refine wpAnyM_twoS 7 8 rfl rfl (by kernel_rfl) (fun K hK => ?_) (fun K hK => ?_)
    ·go_simp
     (refine (rqunit_any c _ M _ HS.out.cell HS.out.free).mono ?_); (rw [NU.out]); rintro e w6 ⟨rfl, hu⟩; have hxx := HS.out.cb; have hyy := HS.out.lim; have HS2 := Lib.hid (HS.out.upd' hu); clear HS; have HS := HS2; clear HS2; (try (have HA2 := Lib.hid (And.intro (HA.out.1.upd hu (by have := HA.out.2; omega)) HA.out.2); clear HA; have HA := HA2; clear HA2)); clear hu hxx hyy
     (try dsimp only)
     (try simp only [Act.put, nA, nB, nC])
     clear hHeld
     refine hK.out _ _ ?_ (fun hHeld => ?_)
     ·exact ⟨HS.out.e0, HS.out.e5⟩
     clear hK K
     (try simp only [Act.put, nA, nB, nC])
     refine wpAnyM_oneS 8 rfl (by kernel_rfl) (fun K hK => ?_)
     go_simp; have HA := Lib.hid (ry_new HS.out); have HS2 := Lib.hid (HS.out.alloc (.cells #[.int .i64 0, .int .i64 0, .int .i64 0, .int .i64 0] 43)); clear HS; have HS := HS2; clear HS2
     clear hHeld
     refine hK.out _ _ ?_ (fun hHeld => ?_)
     ·exact ⟨HS.out.e0, HS.out.e5⟩
     clear hK K
     (try simp only [Act.put, nA, nB, nC])
     refine wpAnyM_doneL 9 rfl (by kernel_rfl) (by rfl) (by kernel_rfl) (run_store_row 43 (.tmp 14) (.tmp 31) rfl _ rfl rfl HA.out.1 irq) ?_
     (try simp only [Act.put, nA, nB, nC])
     refine wpAnyM_done (by kernel_rfl) ?_ _
     (go_wp2_with fail; go_meet; (have hty := (HS.out.ex _ (.tail _ (.tail _ (.tail _ (.tail _ (.tail _ (.head _))))))).2.2); exact ⟨_, _, rfl, Nat.lt_of_lt_of_le hty HA.out.2, Lib.hid (HS.out.fill HA.out.1 HA.out.2 U)⟩)
    ·go_simp; have HA := Lib.hid (ry_new HS.out); have HS2 := Lib.hid (HS.out.alloc (.cells #[.int .i64 0, .int .i64 0, .int .i64 0, .int .i64 0] 43)); clear HS; have HS := HS2; clear HS2
     clear hHeld
     refine hK.out _ _ ?_ (fun hHeld => ?_)
     ·exact ⟨HS.out.e0, HS.out.e5⟩
     clear hK K
     (try simp only [Act.put, nA, nB, nC])
     refine wpAnyM_oneS 7 rfl (by kernel_rfl) (fun K hK => ?_)
     go_simp
     (refine (rqunit_any c _ M _ HS.out.cell HS.out.free).mono ?_); (rw [NU.out]); rintro e w6 ⟨rfl, hu⟩; have hxx := HS.out.cb; have hyy := HS.out.lim; have HS2 := Lib.hid (HS.out.upd' hu); clear HS; have HS := HS2; clear HS2; (try (have HA2 := Lib.hid (And.intro (HA.out.1.upd hu (by have := HA.out.2; omega)) HA.out.2); clear HA; have HA := HA2; clear HA2)); clear hu hxx hyy
     (try dsimp only)
     (try simp only [Act.put, nA, nB, nC])
     clear hHeld
     refine hK.out _ _ ?_ (fun hHeld => ?_)
     ·exact ⟨HS.out.e0, HS.out.e5⟩
     clear hK K
     (try simp only [Act.put, nA, nB, nC])
     refine wpAnyM_doneL 9 rfl (by kernel_rfl) (by rfl) (by kernel_rfl) (run_store_row 43 (.tmp 14) (.tmp 31) rfl _ rfl rfl HA.out.1 irq) ?_
     (try simp only [Act.put, nA, nB, nC])
     refine wpAnyM_done (by kernel_rfl) ?_ _
     (go_wp2_with fail; go_meet; (have hty := (HS.out.ex _ (.tail _ (.tail _ (.tail _ (.tail _ (.tail _ (.head _))))))).2.2); exact ⟨_, _, rfl, Nat.lt_of_lt_of_le hty HA.out.2, Lib.hid (HS.out.fill HA.out.1 HA.out.2 U)⟩)
   ·go_simp; have HA := Lib.hid (ry_new HS.out); have HS2 := Lib.hid (HS.out.alloc (.cells #[.int .i64 0, .int .i64 0, .int .i64 0, .int .i64 0] 43)); clear HS; have HS := HS2; clear HS2
    clear hHeld
    refine hK.out _ _ ?_ (fun hHeld => ?_)
    ·exact ⟨HS.out.e0, HS.out.e5⟩
    clear hK K
    (try simp only [Act.put, nA, nB, nC])
    refine wpAnyM_oneS 6 rfl (by kernel_rfl) (fun K hK => ?_)
    go_simp
    (rw [EL.out]); (refine (rqmul_any c _ Y KE _ HS.out.cell HS.out.free).mono ?_); (rw [NM1.out]); rintro e w5 ⟨rfl, hu⟩; have hxx := HS.out.cb; have hyy := HS.out.lim; have HS2 := Lib.hid (HS.out.upd' hu); clear HS; have HS := HS2; clear HS2; (try (have HA2 := Lib.hid (And.intro (HA.out.1.upd hu (by have := HA.out.2; omega)) HA.out.2); clear HA; have HA := HA2; clear HA2)); clear hu hxx hyy
    (try dsimp only)
    (try simp only [Act.put, nA, nB, nC])
    clear hHeld
    refine hK.out _ _ ?_ (fun hHeld => ?_)
    ·exact ⟨HS.out.e0, HS.out.e5⟩
    clear hK K
    (try simp only [Act.put, nA, nB, nC])
    refine wpAnyM_oneS 7 rfl (by kernel_rfl) (fun K hK => ?_)
    go_simp
    (refine (rqunit_any c _ M _ HS.out.cell HS.out.free).mono ?_); (rw [NU.out]); rintro e w6 ⟨rfl, hu⟩; have hxx := HS.out.cb; have hyy := HS.out.lim; have HS2 := Lib.hid (HS.out.upd' hu); clear HS; have HS := HS2; clear HS2; (try (have HA2 := Lib.hid (And.intro (HA.out.1.upd hu (by have := HA.out.2; omega)) HA.out.2); clear HA; have HA := HA2; clear HA2)); clear hu hxx hyy
    (try dsimp only)
    (try simp only [Act.put, nA, nB, nC])
    clear hHeld
    refine hK.out _ _ ?_ (fun hHeld => ?_)
    ·exact ⟨HS.out.e0, HS.out.e5⟩
    clear hK K
    (try simp only [Act.put, nA, nB, nC])
    refine wpAnyM_doneL 9 rfl (by kernel_rfl) (by rfl) (by kernel_rfl) (run_store_row 43 (.tmp 14) (.tmp 31) rfl _ rfl rfl HA.out.1 irq) ?_
    (try simp only [Act.put, nA, nB, nC])
    refine wpAnyM_done (by kernel_rfl) ?_ _
    (go_wp2_with fail; go_meet; (have hty := (HS.out.ex _ (.tail _ (.tail _ (.tail _ (.tail _ (.tail _ (.head _))))))).2.2); exact ⟨_, _, rfl, Nat.lt_of_lt_of_le hty HA.out.2, Lib.hid (HS.out.fill HA.out.1 HA.out.2 U)⟩)
  ·go_simp; have HA := Lib.hid (ry_new HS.out); have HS2 := Lib.hid (HS.out.alloc (.cells #[.int .i64 0, .int .i64 0, .int .i64 0, .int .i64 0] 43)); clear HS; have HS := HS2; clear HS2
   clear hHeld
   refine hK.out _ _ ?_ (fun hHeld => ?_)
   ·exact ⟨HS.out.e0, HS.out.e5⟩
   clear hK K
   (try simp only [Act.put, nA, nB, nC])
   refine wpAnyM_oneS 5 rfl (by kernel_rfl) (fun K hK => ?_)
   go_simp
   (refine (ratt_any KE _).mono ?_); rintro e w4 ⟨rfl, hb⟩; have HS2 := Lib.hid (HS.out.down hb); clear HS; have HS := HS2; clear HS2; (try (have HA2 := Lib.hid (And.intro (HA.out.1.below hb) HA.out.2); clear HA; have HA := HA2; clear HA2)); clear hb
   (try dsimp only)
   (try simp only [Act.put, nA, nB, nC])
   clear hHeld
   refine hK.out _ _ ?_ (fun hHeld => ?_)
   ·exact ⟨HS.out.e0, HS.out.e5⟩
   clear hK K
   (try simp only [Act.put, nA, nB, nC])
   refine wpAnyM_oneS 6 rfl (by kernel_rfl) (fun K hK => ?_)
   go_simp
   (rw [EL.out]); (refine (rqmul_any c _ Y KE _ HS.out.cell HS.out.free).mono ?_); (rw [NM1.out]); rintro e w5 ⟨rfl, hu⟩; have hxx := HS.out.cb; have hyy := HS.out.lim; have HS2 := Lib.hid (HS.out.upd' hu); clear HS; have HS := HS2; clear HS2; (try (have HA2 := Lib.hid (And.intro (HA.out.1.upd hu (by have := HA.out.2; omega)) HA.out.2); clear HA; have HA := HA2; clear HA2)); clear hu hxx hyy
   (try dsimp only)
   (try simp only [Act.put, nA, nB, nC])
   clear hHeld
   refine hK.out _ _ ?_ (fun hHeld => ?_)
   ·exact ⟨HS.out.e0, HS.out.e5⟩
   clear hK K
   (try simp only [Act.put, nA, nB, nC])
   refine wpAnyM_oneS 7 rfl (by kernel_rfl) (fun K hK => ?_)
   go_simp
   (refine (rqunit_any c _ M _ HS.out.cell HS.out.free).mono ?_); (rw [NU.out]); rintro e w6 ⟨rfl, hu⟩; have hxx := HS.out.cb; have hyy := HS.out.lim; have HS2 := Lib.hid (HS.out.upd' hu); clear HS; have HS := HS2; clear HS2; (try (have HA2 := Lib.hid (And.intro (HA.out.1.upd hu (by have := HA.out.2; omega)) HA.out.2); clear HA; have HA := HA2; clear HA2)); clear hu hxx hyy
   (try dsimp only)
   (try simp only [Act.put, nA, nB, nC])
   clear hHeld
   refine hK.out _ _ ?_ (fun hHeld => ?_)
   ·exact ⟨HS.out.e0, HS.out.e5⟩
   clear hK K
   (try simp only [Act.put, nA, nB, nC])
   refine wpAnyM_doneL 9 rfl (by kernel_rfl) (by rfl) (by kernel_rfl) (run_store_row 43 (.tmp 14) (.tmp 31) rfl _ rfl rfl HA.out.1 irq) ?_
   (try simp only [Act.put, nA, nB, nC])
   refine wpAnyM_done (by kernel_rfl) ?_ _
   (go_wp2_with fail; go_meet; (have hty := (HS.out.ex _ (.tail _ (.tail _ (.tail _ (.tail _ (.tail _ (.head _))))))).2.2); exact ⟨_, _, rfl, Nat.lt_of_lt_of_le hty HA.out.2, Lib.hid (HS.out.fill HA.out.1 HA.out.2 U)⟩)
 case rest =>
 obtain ⟨qb, tp, rfl, htq, HB⟩ := hcut
 clear HS
 have R0 := Lib.hid (show LsR c (h || keepH S || fyH a || qmH Y KE || uniH M) [⟨w.heap.size, 23, 24, rtuK KE U 0⟩, ⟨qb, 43, 4, U⟩, ⟨w.heap.size + 1, 26, 300, P⟩, ⟨w.heap.size + 1 + 1, 23, 24, fun _ => 0⟩, ⟨w.heap.size + 1 + 1 + 1, 26, 300, fun _ => 0⟩, ⟨w.heap.size + 1 + 1 + 1 + 1, 46, 10, fun _ => 0⟩, ⟨tb, 46, 10, TD⟩] tp w _ from (HB.out.sub (E' := [⟨w.heap.size, 23, 24, KE⟩, ⟨qb, 43, 4, U⟩, ⟨w.heap.size + 1, 26, 300, P⟩, ⟨w.heap.size + 1 + 1, 23, 24, fun _ => 0⟩, ⟨w.heap.size + 1 + 1 + 1, 26, 300, fun _ => 0⟩, ⟨w.heap.size + 1 + 1 + 1 + 1, 46, 10, fun _ => 0⟩, ⟨tb, 46, 10, TD⟩]) (by simp)).congr rfl (fun i hi => by simp [rtuK]))
 clear HB
 go_wp2_with fail
 go_loopw [15] (fun i wr => ∃ k : Nat, k ≤ 4 ∧ i = .int .i64 k ∧ Hid (LsR c (h || keepH S || fyH a || qmH Y KE || uniH M) [⟨w.heap.size, 23, 24, rtuK KE U k⟩, ⟨qb, 43, 4, U⟩, ⟨w.heap.size + 1, 26, 300, P⟩, ⟨w.heap.size + 1 + 1, 23, 24, fun _ => 0⟩, ⟨w.heap.size + 1 + 1 + 1, 26, 300, fun _ => 0⟩, ⟨w.heap.size + 1 + 1 + 1 + 1, 46, 10, fun _ => 0⟩, ⟨tb, 46, 10, TD⟩] tp w wr)) (fun i _ => 4 - (intOf i).toNat)
 case atStart => exact ⟨0, by omega, rfl, R0⟩
 case round =>
  obtain ⟨k, hk, rfl, R⟩ := hrel
  clear R0
  by_cases hlt : k < 4
  ·have d1 : decide ((k : Int) < 4) = true := by simp; omega
   have k0 : (0 : Int) ≤ (k : Int) := Int.natCast_nonneg _
   have k1 : (k : Int) < 4 := by omega
   have q0 := R.out.e1.cell (i := k) (by omega)
   have v0 := R.out.e0.cell (i := k) (by omega)
   have v1 := R.out.e0.free k
   go_wp2_with fail
   go_roundw
   case rel =>
    refine ⟨k + 1, by omega, by go_num, Lib.hid ((R.out.set (by simp; omega) k (U k)).congr rfl fun i hi => ?_)⟩
    simp only [Go.Proofs.YtgfklheepkgedaaGreat.upd, rtuK]
    by_cases h : i = k
    ·subst h; rw [if_pos rfl, if_pos (by omega)]
    ·rw [if_neg h]; split <;> split <;> first | rfl | omega
   case measure => simp [intOf]; omega
  ·have hk4 : k = 4 := by omega
   subst hk4
   rw [show ((4 : Nat) : Int) = 4 from rfl]
   have M5 := R.out.sub (E' := [⟨w.heap.size + 1 + 1, 23, 24, fun _ => 0⟩, ⟨w.heap.size + 1 + 1 + 1, 26, 300, fun _ => 0⟩, ⟨w.heap.size + 1 + 1 + 1 + 1, 46, 10, fun _ => 0⟩, ⟨w.heap.size, 23, 24, rtuK KE U 4⟩, ⟨w.heap.size + 1, 26, 300, P⟩, ⟨tb, 46, 10, TD⟩]) (by simp)
   rw [rtu_with, NV.out] at M5
   have M5 := Lib.hid M5
   clear R hk hlt
   obtain ⟨MS, hMS⟩ : ∃ x, V = x := ⟨_, rfl⟩
   rw [hMS] at M5 EM
   clear hMS
   obtain ⟨H3, hH3⟩ : ∃ x, (h || keepH S || fyH a || qmH Y KE || uniH M) = x := ⟨_, rfl⟩
   rw [hH3] at M5 EM
   clear hH3
   obtain ⟨RV, hRV⟩ : ∃ x, stepF P (rtF 0 4) (rtQ 0 (fun _ => v) 4) = x := ⟨_, rfl⟩
   have NR := Lib.hid hRV
   obtain ⟨KM, hKM⟩ : ∃ x, keepF MS = x := ⟨_, rfl⟩
   have NM := Lib.hid hKM
   clear hRV hKM
   go_upto_region 9 with fail
   have HS := Lib.hid M5.out.drew
   clear M5
   (try simp only [Act.put])
   refine wp_region_M (fun w' => Blk w' (w.heap.size) 23 24 MS ∧ Blk w' (w.heap.size + 1) 26 300 P ∧ Blk w' tb 46 10 TD) 11 (by kernel_rfl) ?_ (fun hHeld => ?_)
   ·first | exact rk3 HS.out | exact rkR (rk3 HS.out) _ (by omega) (by omega) (by omega) | exact rkR (rkR (rk3 HS.out) _ (by omega) (by omega) (by omega)) _ (by omega) (by omega) (by omega)
   refine tk 0 ?_
   (try simp only [Act.put, nA, nB, nC])
   refine tl 1 (v := ?_) ?_ ?_
   rotate_left
   ·(intro wx hSw; refine Eq.trans (run_load_row 23 (.tmp 6) (by rfl) (w.heap.size) (by rfl) _ _ _ _ (hSw.1) Tryz.underlying23 rfl (ist.trans (by rw [arrv_size]))) ?_; with_reducible rfl)
   (try simp only [Act.put, nA, nB, nC])
   refine tk 3 ?_
   (try simp only [Act.put, nA, nB, nC])
   refine tl 4 (v := ?_) ?_ ?_
   rotate_left
   ·(intro wx hSw; refine Eq.trans (run_load_row 26 (.tmp 7) (by rfl) (w.heap.size + 1) (by rfl) _ _ _ _ (hSw.2.1) Tryz.underlying26 rfl (icov.trans (by rw [arrv_size]))) ?_; with_reducible rfl)
   (try simp only [Act.put, nA, nB, nC])
   refine tk 5 ?_
   (try simp only [Act.put, nA, nB, nC])
   refine tl 8 (v := ?_) ?_ ?_
   rotate_left
   ·(intro wx hSw; refine Eq.trans (run_load_row 46 (.tmp 13) (by rfl) tb (by rfl) _ _ _ _ hSw.2.2 Tryz.underlying46 rfl (irdl.trans (by rw [arrv_size]))) ?_; with_reducible rfl)
   (try simp only [Act.put, nA, nB, nC])
   refine wpAnyM_oneS 2 rfl (by kernel_rfl) (fun K hK => ?_)
   go_simp
   (refine (rkeep16_any c _ MS _ HS.out.cell HS.out.free).mono ?_); (rw [NM.out]); rintro e w6 ⟨rfl, hu⟩; (try (have HT2 := Lib.hid (And.intro (HT.out.1.upd hu HT.out.2) HT.out.2); clear HT; have HT := HT2; clear HT2)); have HS2 := Lib.hid (HS.out.upd' hu); clear HS hu; have HS := HS2; clear HS2
   (try dsimp only)
   (try simp only [Act.put, nA, nB, nC])
   clear hHeld
   refine hK.out _ _ ?_ (fun hHeld => ?_)
   ·first | exact rk3 HS.out | exact rkR (rk3 HS.out) _ (by omega) (by omega) (by omega) | exact rkR (rkR (rk3 HS.out) _ (by omega) (by omega) (by omega)) _ (by omega) (by omega) (by omega)
   clear hK K
   (try simp only [Act.put, nA, nB, nC])
   refine wpAnyM_oneS 6 rfl (by kernel_rfl) (fun K hK => ?_)
   go_simp
   (refine (rtimes_any v 4 _ (by decide)).mono ?_); rintro e w7 ⟨u, rfl, ho, hb⟩; have hzz := HS.out.le; have hyy := HS.out.lim; have hxx := HS.out.cb; obtain ⟨g, cg, rfl, hg1, hg2⟩ := tm_own ho (by decide); have HT := Lib.hid (And.intro hg2 (show g ≠ c.block by omega)); have HS2 := Lib.hid (HS.out.down hb); clear HS hb ho hg1 hg2 hzz hyy hxx; have HS := HS2; clear HS2
   (try dsimp only)
   (try simp only [Act.put, nA, nB, nC])
   clear hHeld
   refine hK.out _ _ ?_ (fun hHeld => ?_)
   ·first | exact rk3 HS.out | exact rkR (rk3 HS.out) _ (by omega) (by omega) (by omega) | exact rkR (rkR (rk3 HS.out) _ (by omega) (by omega) (by omega)) _ (by omega) (by omega) (by omega)
   clear hK K
   (try simp only [Act.put, nA, nB, nC])
   refine wpAnyM_oneS 7 rfl (by kernel_rfl) (fun K hK => ?_)
   go_simp
   (refine (rreset_any c _ P 0 _ 4 _ (fun _ => v) _ HS.out.cell HS.out.free HT.out.1.slc (by decide) (by decide)).mono ?_); (rw [NR.out]); rintro e w8 ⟨rfl, hu⟩; clear HT; have HS2 := Lib.hid (HS.out.upd' hu); clear HS hu; have HS := HS2; clear HS2
   (try dsimp only)
   (try simp only [Act.put, nA, nB, nC])
   clear hHeld
   refine hK.out _ _ ?_ (fun hHeld => ?_)
   ·first | exact rk3 HS.out | exact rkR (rk3 HS.out) _ (by omega) (by omega) (by omega) | exact rkR (rkR (rk3 HS.out) _ (by omega) (by omega) (by omega)) _ (by omega) (by omega) (by omega)
   clear hK K
   (try simp only [Act.put, nA, nB, nC])
   clear hHeld
   refine wpAnyM_doneN 9 rfl (by kernel_rfl) (by rfl) (run_store_row 23 (.tmp 10) (.tmp 43) rfl _ rfl rfl HS.out.e0 ist) ?_ (fun hHeld => ?_)
   ·first | exact rk3 HS.out | exact rkR (rk3 HS.out) _ (by omega) (by omega) (by omega) | exact rkR (rkR (rk3 HS.out) _ (by omega) (by omega) (by omega)) _ (by omega) (by omega) (by omega)
   (try simp only [Act.put, nA, nB, nC])
   clear hHeld
   refine wpAnyM_doneN 10 rfl (by kernel_rfl) (by rfl) (run_store_row 26 (.tmp 11) (.tmp 48) rfl _ rfl rfl (HS.out.e1.setRow_other _ (by omega)) icov) ?_ (fun hHeld => ?_)
   ·first | exact rk3 HS.out | exact rkR (rk3 HS.out) _ (by omega) (by omega) (by omega) | exact rkR (rkR (rk3 HS.out) _ (by omega) (by omega) (by omega)) _ (by omega) (by omega) (by omega)
   (try simp only [Act.put, nA, nB, nC])
   refine wpAnyM_doneL 11 rfl (by kernel_rfl) (by rfl) (by kernel_rfl) (run_store_row 46 (.tmp 12) (.tmp 49) rfl _ rfl rfl ((HS.out.e2.setRow_other _ (by omega)).setRow_other _ (by omega)) irdl) ?_
   (try simp only [Act.put, nA, nB, nC])
   refine wpAnyM_done (by kernel_rfl) ?_ _
   (have HR := Lib.hid (ls_row3 (F' := KM) (G' := RV) (K' := TD) HS.out (by omega) (by omega) (by omega)); go_wp2_with fail; refine bodyPost_ret_by (results_rows3 Tryz.results7 _ _ (w.heap.size + 1 + 1) (w.heap.size + 1 + 1 + 1) (w.heap.size + 1 + 1 + 1 + 1) 23 26 46 (arrv 24 KM) (arrv 300 RV) (arrv 10 TD) (0, 0) (0, 0) (0, 0) _ _ _ rfl HR.out.1 Tryz.underlying23 rfl (ist.trans (by rw [arrv_size])) rfl HR.out.2.1 Tryz.underlying26 rfl (icov.trans (by rw [arrv_size])) rfl HR.out.2.2.1 Tryz.underlying46 rfl (irdl.trans (by rw [arrv_size]))) rfl ⟨by rw [EM.out.1, EM.out.2.2, NM.out, NR.out], by rw [EM.out.2.1]; (first | exact HR.out.2.2.2 | (rw [rj_flag]; exact HR.out.2.2.2))⟩)
end Go.Proofs.YtgfklheepkgedaaGreat
/- What the walk of ResetSays shares (printed by wip/gen_says26.py). -/
namespace Go.Proofs.YtgfklheepkgedaaGreat
open Go.RowKit
open Go
set_option maxRecDepth 100000
theorem run_build_zz24 {o : Oper} {ev : Operand → Value} {w : World} (ho : o.op = .build 23 #[]) : (execOp ev o).run Tryz.prog w = .ok (.value (.agg (arrv 24 (fun _ => 0)))) w := by
 unfold execOp
 simp only [ho]
 kernel_rfl
theorem run_build_zz300 {o : Oper} {ev : Operand → Value} {w : World} (ho : o.op = .build 26 #[]) : (execOp ev o).run Tryz.prog w = .ok (.value (.agg (arrv 300 (fun _ => 0)))) w := by
 unfold execOp
 simp only [ho]
 kernel_rfl
theorem run_build_zz11 {o : Oper} {ev : Operand → Value} {w : World} (ho : o.op = .build 42 #[]) : (execOp ev o).run Tryz.prog w = .ok (.value (.agg (arrv 11 (fun _ => 0)))) w := by
 unfold execOp
 simp only [ho]
 kernel_rfl
theorem run_build_zz10 {o : Oper} {ev : Operand → Value} {w : World} (ho : o.op = .build 46 #[]) : (execOp ev o).run Tryz.prog w = .ok (.value (.agg (arrv 10 (fun _ => 0)))) w := by
 unfold execOp
 simp only [ho]
 kernel_rfl
theorem run_op_neqS (x y : Operand) {o : Oper} {ev : Operand → Value} {w : World} (ho : o.op = .binOp .neq 23 x y 23) {f : Nat → Int} (hx : ev x = .agg (arrv 24 f)) (hy : ev y = .agg (arrv 24 f)) :
  (execOp ev o).run Tryz.prog w = .ok (.value (.bool false)) w := by
 have h : (Tryz.prog.info? 2).map (·.size) = some 1 := by kernel_rfl
 obtain ⟨i, h2, s2⟩ : ∃ i, Tryz.prog.info? 2 = some i ∧ i.size = 1 := by
  cases e : Tryz.prog.info? 2 with
  | none => rw [e] at h; cases h
  | some i => rw [e] at h; exact ⟨i, rfl, by simpa using h⟩
 have e : (Op.equal 23 (.agg (arrv 24 f)) (.agg (arrv 24 f))).run Tryz.prog w = .ok true w :=
  (run_equalIn_vec (w := w) 9998 Tryz.underlying23 Tryz.underlying2 (by simp [Program.cellsOf, h2, s2]) h2 _ _).trans (by rw [eqB_iff.2 fun _ _ => rfl])
 have hG : Tryz.prog.eqGuardType Tryz.prog.depth 23 = false := by kernel_rfl
 unfold execOp
 simp only [ho, hx, hy, eqGuard, binOp, Sem.run_bind, Sem.run_pure, Result.andThen_ok]
 simp [hG, e, go_sem]
theorem run_op_neqC (x y : Operand) {o : Oper} {ev : Operand → Value} {w : World} (ho : o.op = .binOp .neq 26 x y 26) {f : Nat → Int} (hx : ev x = .agg (arrv 300 f)) (hy : ev y = .agg (arrv 300 f)) :
  (execOp ev o).run Tryz.prog w = .ok (.value (.bool false)) w := by
 have e := run_equal_cov w f f
 have hG : Tryz.prog.eqGuardType Tryz.prog.depth 26 = false := by kernel_rfl
 have hb : covB f f = true := covB_iff.2 fun _ _ => rfl
 unfold execOp
 simp only [ho, hx, hy, eqGuard, binOp, Sem.run_bind, Sem.run_pure, Result.andThen_ok]
 simp [hG, e, hb, go_sem]
theorem run_op_neqD (x y : Operand) {o : Oper} {ev : Operand → Value} {w : World} (ho : o.op = .binOp .neq 46 x y 46) {f : Nat → Int} (hx : ev x = .agg (arrv 10 f)) (hy : ev y = .agg (arrv 10 f)) :
  (execOp ev o).run Tryz.prog w = .ok (.value (.bool false)) w := by
 have e : (Op.equal 46 (.agg (arrv 10 f)) (.agg (arrv 10 f))).run Tryz.prog w = .ok true w := run_equalIn_rd 9997 w f
 have hG : Tryz.prog.eqGuardType Tryz.prog.depth 46 = false := by kernel_rfl
 unfold execOp
 simp only [ho, hx, hy, eqGuard, binOp, Sem.run_bind, Sem.run_pure, Result.andThen_ok]
 simp [hG, e, go_sem]
theorem BsR.putz {E : List Lx} {top : Nat} {w wr : World} (s : BsR E top w wr) (T n : Nat) (Z : Array Value) (hZ : Z = arrv n (fun _ => 0)) : BsR (⟨wr.heap.size, T, n, fun _ => 0⟩ :: E) (wr.heap.size + 1) w ((wr.alloc (.cells Z T)).setRow wr.heap.size (arrv n (fun _ => 0))) := by
 subst hZ
 exact (s.lay T n (fun _ => 0)).row (fun e he => by have := (s.ex e he).2.2; have := s.le; omega) _
/-- Two flags, the six results, and the arguments. -/
structure RvS (bc rc ab bb xb yb db eb : Nat) (hb hr : Bool) (A B X Y D E S P T : Nat → Int) (w wr : World) : Prop where
 below : Below w.heap.size w wr
 o : w.heap.size + 1 + 1 < bc ∧ bc < rc ∧ rc < ab ∧ ab < bb ∧ bb < xb ∧ xb < yb ∧ yb < db ∧ db < eb
 c1 : wr.cell? ⟨bc, 0, none⟩ = some (.bool hb)
 f1 : wr.frozen? ⟨bc, 0, none⟩ = false
 c2 : wr.cell? ⟨rc, 0, none⟩ = some (.bool hr)
 f2 : wr.frozen? ⟨rc, 0, none⟩ = false
 a : Blk wr ab 23 24 A
 b : Blk wr bb 23 24 B
 x : Blk wr xb 26 300 X
 y : Blk wr yb 26 300 Y
 d : Blk wr db 42 11 D
 e : Blk wr eb 46 10 E
 s : Blk wr w.heap.size 23 24 S
 p : Blk wr (w.heap.size + 1) 26 300 P
 t : Blk wr (w.heap.size + 1 + 1) 28 3 T
section
variable {bc rc ab bb xb yb db eb : Nat} {hb hr h' : Bool} {A B X Y D E S P T : Nat → Int} {w wr w' : World}
theorem RvS.l1 (s : RvS bc rc ab bb xb yb db eb hb hr A B X Y D E S P T w wr) : bc < wr.heap.size := World.block_lt_of_cell? _ _ s.c1
theorem RvS.l2 (s : RvS bc rc ab bb xb yb db eb hb hr A B X Y D E S P T w wr) : rc < wr.heap.size := World.block_lt_of_cell? _ _ s.c2
theorem RvS.down (s : RvS bc rc ab bb xb yb db eb hb hr A B X Y D E S P T w wr) (k : Below wr.heap.size wr w') : RvS bc rc ab bb xb yb db eb hb hr A B X Y D E S P T w w' :=
 ⟨s.below.trans (k.mono s.below.size), s.o, (World.cell?_of_block (a := ⟨bc, 0, none⟩) (k.block _ s.l1)).trans s.c1, (World.frozen?_of_block (a := ⟨bc, 0, none⟩) (k.block _ s.l1)).trans s.f1, (World.cell?_of_block (a := ⟨rc, 0, none⟩) (k.block _ s.l2)).trans s.c2, (World.frozen?_of_block (a := ⟨rc, 0, none⟩) (k.block _ s.l2)).trans s.f2, s.a.below k, s.b.below k, s.x.below k, s.y.below k, s.d.below k, s.e.below k, s.s.below k, s.p.below k, s.t.below k⟩
theorem RvS.drew (s : RvS bc rc ab bb xb yb db eb hb hr A B X Y D E S P T w wr) : RvS bc rc ab bb xb yb db eb hb hr A B X Y D E S P T w wr.drew := s.down (Below.drew (Below.refl _ _))
theorem RvS.updB (s : RvS bc rc ab bb xb yb db eb hb hr A B X Y D E S P T w wr) (u : Upd ⟨bc, 0, none⟩ h' wr w') : RvS bc rc ab bb xb yb db eb h' hr A B X Y D E S P T w w' := by
 have o := s.o
 have e2 := u.block s.l2 (fun e => by simp only at e; omega)
 exact ⟨own_upd s.below (by simp only; omega) u, s.o, u.cellc s.c1, (u.frozen s.l1).trans s.f1, (World.cell?_of_block (a := ⟨rc, 0, none⟩) e2).trans s.c2, (World.frozen?_of_block (a := ⟨rc, 0, none⟩) e2).trans s.f2, s.a.upd u (by simp only; omega), s.b.upd u (by simp only; omega), s.x.upd u (by simp only; omega), s.y.upd u (by simp only; omega), s.d.upd u (by simp only; omega), s.e.upd u (by simp only; omega), s.s.upd u (by simp only; omega), s.p.upd u (by simp only; omega), s.t.upd u (by simp only; omega)⟩
theorem RvS.updR (s : RvS bc rc ab bb xb yb db eb hb hr A B X Y D E S P T w wr) (u : Upd ⟨rc, 0, none⟩ h' wr w') : RvS bc rc ab bb xb yb db eb hb h' A B X Y D E S P T w w' := by
 have o := s.o
 have e1 := u.block s.l1 (fun e => by simp only at e; omega)
 exact ⟨own_upd s.below (by simp only; omega) u, s.o, (World.cell?_of_block (a := ⟨bc, 0, none⟩) e1).trans s.c1, (World.frozen?_of_block (a := ⟨bc, 0, none⟩) e1).trans s.f1, u.cellc s.c2, (u.frozen s.l2).trans s.f2, s.a.upd u (by simp only; omega), s.b.upd u (by simp only; omega), s.x.upd u (by simp only; omega), s.y.upd u (by simp only; omega), s.d.upd u (by simp only; omega), s.e.upd u (by simp only; omega), s.s.upd u (by simp only; omega), s.p.upd u (by simp only; omega), s.t.upd u (by simp only; omega)⟩
theorem RvS.set_a (s : RvS bc rc ab bb xb yb db eb hb hr A B X Y D E S P T w wr) (G : Nat → Int) : RvS bc rc ab bb xb yb db eb hb hr G B X Y D E S P T w (wr.setRow ab (arrv 24 G)) := by
 have o := s.o
 exact ⟨below_row s.below (by omega) _, s.o, (ls_row_other _ (by simp only; omega)).1.trans s.c1, (ls_row_other _ (by simp only; omega)).2.trans s.f1, (ls_row_other _ (by simp only; omega)).1.trans s.c2, (ls_row_other _ (by simp only; omega)).2.trans s.f2, s.a.setRow G, s.b.setRow_other _ (by omega), s.x.setRow_other _ (by omega), s.y.setRow_other _ (by omega), s.d.setRow_other _ (by omega), s.e.setRow_other _ (by omega), s.s.setRow_other _ (by omega), s.p.setRow_other _ (by omega), s.t.setRow_other _ (by omega)⟩
theorem RvS.set_b (s : RvS bc rc ab bb xb yb db eb hb hr A B X Y D E S P T w wr) (G : Nat → Int) : RvS bc rc ab bb xb yb db eb hb hr A G X Y D E S P T w (wr.setRow bb (arrv 24 G)) := by
 have o := s.o
 exact ⟨below_row s.below (by omega) _, s.o, (ls_row_other _ (by simp only; omega)).1.trans s.c1, (ls_row_other _ (by simp only; omega)).2.trans s.f1, (ls_row_other _ (by simp only; omega)).1.trans s.c2, (ls_row_other _ (by simp only; omega)).2.trans s.f2, s.a.setRow_other _ (by omega), s.b.setRow G, s.x.setRow_other _ (by omega), s.y.setRow_other _ (by omega), s.d.setRow_other _ (by omega), s.e.setRow_other _ (by omega), s.s.setRow_other _ (by omega), s.p.setRow_other _ (by omega), s.t.setRow_other _ (by omega)⟩
theorem RvS.set_x (s : RvS bc rc ab bb xb yb db eb hb hr A B X Y D E S P T w wr) (G : Nat → Int) : RvS bc rc ab bb xb yb db eb hb hr A B G Y D E S P T w (wr.setRow xb (arrv 300 G)) := by
 have o := s.o
 exact ⟨below_row s.below (by omega) _, s.o, (ls_row_other _ (by simp only; omega)).1.trans s.c1, (ls_row_other _ (by simp only; omega)).2.trans s.f1, (ls_row_other _ (by simp only; omega)).1.trans s.c2, (ls_row_other _ (by simp only; omega)).2.trans s.f2, s.a.setRow_other _ (by omega), s.b.setRow_other _ (by omega), s.x.setRow G, s.y.setRow_other _ (by omega), s.d.setRow_other _ (by omega), s.e.setRow_other _ (by omega), s.s.setRow_other _ (by omega), s.p.setRow_other _ (by omega), s.t.setRow_other _ (by omega)⟩
theorem RvS.set_y (s : RvS bc rc ab bb xb yb db eb hb hr A B X Y D E S P T w wr) (G : Nat → Int) : RvS bc rc ab bb xb yb db eb hb hr A B X G D E S P T w (wr.setRow yb (arrv 300 G)) := by
 have o := s.o
 exact ⟨below_row s.below (by omega) _, s.o, (ls_row_other _ (by simp only; omega)).1.trans s.c1, (ls_row_other _ (by simp only; omega)).2.trans s.f1, (ls_row_other _ (by simp only; omega)).1.trans s.c2, (ls_row_other _ (by simp only; omega)).2.trans s.f2, s.a.setRow_other _ (by omega), s.b.setRow_other _ (by omega), s.x.setRow_other _ (by omega), s.y.setRow G, s.d.setRow_other _ (by omega), s.e.setRow_other _ (by omega), s.s.setRow_other _ (by omega), s.p.setRow_other _ (by omega), s.t.setRow_other _ (by omega)⟩
theorem RvS.set_d (s : RvS bc rc ab bb xb yb db eb hb hr A B X Y D E S P T w wr) (G : Nat → Int) : RvS bc rc ab bb xb yb db eb hb hr A B X Y G E S P T w (wr.setRow db (arrv 11 G)) := by
 have o := s.o
 exact ⟨below_row s.below (by omega) _, s.o, (ls_row_other _ (by simp only; omega)).1.trans s.c1, (ls_row_other _ (by simp only; omega)).2.trans s.f1, (ls_row_other _ (by simp only; omega)).1.trans s.c2, (ls_row_other _ (by simp only; omega)).2.trans s.f2, s.a.setRow_other _ (by omega), s.b.setRow_other _ (by omega), s.x.setRow_other _ (by omega), s.y.setRow_other _ (by omega), s.d.setRow G, s.e.setRow_other _ (by omega), s.s.setRow_other _ (by omega), s.p.setRow_other _ (by omega), s.t.setRow_other _ (by omega)⟩
theorem RvS.set_e (s : RvS bc rc ab bb xb yb db eb hb hr A B X Y D E S P T w wr) (G : Nat → Int) : RvS bc rc ab bb xb yb db eb hb hr A B X Y D G S P T w (wr.setRow eb (arrv 10 G)) := by
 have o := s.o
 exact ⟨below_row s.below (by omega) _, s.o, (ls_row_other _ (by simp only; omega)).1.trans s.c1, (ls_row_other _ (by simp only; omega)).2.trans s.f1, (ls_row_other _ (by simp only; omega)).1.trans s.c2, (ls_row_other _ (by simp only; omega)).2.trans s.f2, s.a.setRow_other _ (by omega), s.b.setRow_other _ (by omega), s.x.setRow_other _ (by omega), s.y.setRow_other _ (by omega), s.d.setRow_other _ (by omega), s.e.setRow G, s.s.setRow_other _ (by omega), s.p.setRow_other _ (by omega), s.t.setRow_other _ (by omega)⟩
theorem RvS.bs (s : RvS bc rc ab bb xb yb db eb hb hr A B X Y D E S P T w wr) : BsR [⟨w.heap.size, 23, 24, S⟩, ⟨w.heap.size + 1, 26, 300, P⟩, ⟨w.heap.size + 1 + 1, 28, 3, T⟩] (w.heap.size + 1 + 1 + 1) w wr := by
 have o := s.o
 have l := s.l1
 refine ⟨s.below, fun e he => ?_, by omega, by omega⟩
 simp only [List.mem_cons, List.mem_nil_iff, or_false] at he
 rcases he with rfl | rfl | rfl
 ·exact ⟨s.s, by simp only; omega, by simp only; omega⟩
 ·exact ⟨s.p, by simp only; omega, by simp only; omega⟩
 ·exact ⟨s.t, by simp only; omega, by simp only; omega⟩
/-- The start of a round: the flags laid upon what stood there, and the six zero values upon them. -/
theorem rvs_mk {W1 W6 : World} {t1 : Nat} (s : BsR [⟨w.heap.size, 23, 24, S⟩, ⟨w.heap.size + 1, 26, 300, P⟩, ⟨w.heap.size + 1 + 1, 28, 3, T⟩] (w.heap.size + 1 + 1 + 1) w wr)
  (e1 : (wr.alloc (.cells #[.bool false] 32)).alloc (.cells #[.bool false] 36) = W1)
  (b : BsR [⟨eb, 46, 10, fun _ => 0⟩, ⟨db, 42, 11, fun _ => 0⟩, ⟨yb, 26, 300, fun _ => 0⟩, ⟨xb, 26, 300, fun _ => 0⟩, ⟨bb, 23, 24, fun _ => 0⟩, ⟨ab, 23, 24, fun _ => 0⟩] t1 W1 W6)
  (ho : ab < bb ∧ bb < xb ∧ xb < yb ∧ yb < db ∧ db < eb) : RvS wr.heap.size (wr.heap.size + 1) ab bb xb yb db eb false false (fun _ => 0) (fun _ => 0) (fun _ => 0) (fun _ => 0) (fun _ => 0) (fun _ => 0) S P T w W6 := by
 subst e1
 have hl := s.le
 have hab := (b.ex _ (.tail _ (.tail _ (.tail _ (.tail _ (.tail _ (.head _))))))).2.1
 have hbl := b.below
 simp at hab hbl
 have s2 := s.down ((((Below.refl wr.heap.size wr).alloc (Nat.le_refl _) (.cells #[.bool false] 32)).alloc (by simp) (.cells #[.bool false] 36)).trans (hbl.mono (by omega)))
 have k1 := hbl.block wr.heap.size (by omega)
 have k2 := hbl.block (wr.heap.size + 1) (by omega)
 exact ⟨s2.below, by omega, (World.cell?_of_block (a := ⟨wr.heap.size, 0, none⟩) k1).trans (by simp [go_sem]), (World.frozen?_of_block (a := ⟨wr.heap.size, 0, none⟩) k1).trans (by simp [go_sem]), (World.cell?_of_block (a := ⟨wr.heap.size + 1, 0, none⟩) k2).trans (by simp [go_sem]), (World.frozen?_of_block (a := ⟨wr.heap.size + 1, 0, none⟩) k2).trans (by simp [go_sem]),
  (b.ex _ (.tail _ (.tail _ (.tail _ (.tail _ (.tail _ (.head _))))))).1, (b.ex _ (.tail _ (.tail _ (.tail _ (.tail _ (.head _)))))).1, (b.ex _ (.tail _ (.tail _ (.tail _ (.head _))))).1, (b.ex _ (.tail _ (.tail _ (.head _)))).1, (b.ex _ (.tail _ (.head _))).1, (b.ex _ (.head _)).1,
  s2.e0, s2.e1, s2.e2⟩
end
theorem mid_E (k : Int) (off m : Nat) (L : Nat → Int) : arrv 10 (fun i => midF (tdF dl0 k) off m L (0 + i)) = arrv 10 (midF dl0 off m L) := arrv_congr fun i hi => by
 rw [Nat.zero_add]; unfold midF tdF; rw [if_pos hi]
theorem mid_K (k : Int) (off m : Nat) (L : Nat → Int) (h : off + m ≤ 10) : midF (tdF dl0 k) off m L 10 = k := by
 unfold midF tdF; rw [if_neg (by omega), if_neg (by omega)]
theorem put_E (k : Int) (L : Nat → Int) : arrv 10 (fun i => putF (tdF dl0 k) 0 4 L (0 + i)) = arrv 10 (putF dl0 0 4 L) := arrv_congr fun i hi => by
 rw [Nat.zero_add]; unfold putF tdF; rw [if_pos hi]
theorem put_K (k : Int) (L : Nat → Int) : putF (tdF dl0 k) 0 4 L 10 = k := by
 unfold putF tdF; rw [if_neg (by omega), if_neg (by omega)]
end Go.Proofs.YtgfklheepkgedaaGreat
