/- Contracts of the program's functions and plain laws, part 16: they hold for all arguments. -/
import Derived.Test.YtiajjiphknlldaaGreatQ15
import Derived.Test.YtiajjiphknlldaaGreatQ14
import Derived.Test.YtiajjiphknlldaaGreatQ03
import Derived.Test.YtiajjiphknlldaaGreatQ04
/- The reference's Update: the walk. -/
namespace Go.Proofs.YtiajjiphknlldaaGreat
open Go.RowKit
set_option maxRecDepth 100000
set_option maxHeartbeats 16000000 in
theorem rupd_any (c : Addr) (h : Bool) (p H : Nat → Int) (r : Int) (w : World) (hc : w.cell? c = some (.bool h)) (hf : w.frozen? c = false) :
    Calls Tryz.prog 25 #[.pointer (some c), .agg (arrv 300 p), .agg (arrv 24 H), .int .i64 r] w fun e w' =>
      e = .returned (.tuple #[.agg (arrv 300 (updP p H r)), .agg (arrv 24 (updG p H r)), .int .i64 (updS p H r)]) ∧ Upd c (h || updH p H r) w w' := by
  have hcb := World.block_lt_of_cell? w c hc
  have HC := Lib.hid hc
  have HF := Lib.hid hf
  go_enter Tryz.func25, Tryz.ntmps25
  have P0 : Blk ((((w.alloc (.cells (arrv 300 p) 26)).alloc (.cells (arrv 24 H) 22)).alloc (.cells Tryz.zeroCells26 26)).alloc (.cells #[.int .i64 0, .int .i64 0, .int .i64 0, .int .i64 0, .int .i64 0, .int .i64 0, .int .i64 0, .int .i64 0, .int .i64 0, .int .i64 0, .int .i64 0, .int .i64 0, .int .i64 0, .int .i64 0, .int .i64 0, .int .i64 0, .int .i64 0, .int .i64 0, .int .i64 0, .int .i64 0, .int .i64 0, .int .i64 0, .int .i64 0, .int .i64 0] 22)) w.heap.size 26 300 p := (((Blk.new w _ _ _).alloc _).alloc _).alloc _
  have R0 : Blk ((((w.alloc (.cells (arrv 300 p) 26)).alloc (.cells (arrv 24 H) 22)).alloc (.cells Tryz.zeroCells26 26)).alloc (.cells #[.int .i64 0, .int .i64 0, .int .i64 0, .int .i64 0, .int .i64 0, .int .i64 0, .int .i64 0, .int .i64 0, .int .i64 0, .int .i64 0, .int .i64 0, .int .i64 0, .int .i64 0, .int .i64 0, .int .i64 0, .int .i64 0, .int .i64 0, .int .i64 0, .int .i64 0, .int .i64 0, .int .i64 0, .int .i64 0, .int .i64 0, .int .i64 0] 22)) (w.heap.size + 1) 22 24 H := ((Blk.new1 w _ _ _ _).alloc _).alloc _
  have Z0 : Blk ((((w.alloc (.cells (arrv 300 p) 26)).alloc (.cells (arrv 24 H) 22)).alloc (.cells Tryz.zeroCells26 26)).alloc (.cells #[.int .i64 0, .int .i64 0, .int .i64 0, .int .i64 0, .int .i64 0, .int .i64 0, .int .i64 0, .int .i64 0, .int .i64 0, .int .i64 0, .int .i64 0, .int .i64 0, .int .i64 0, .int .i64 0, .int .i64 0, .int .i64 0, .int .i64 0, .int .i64 0, .int .i64 0, .int .i64 0, .int .i64 0, .int .i64 0, .int .i64 0, .int .i64 0] 22)) (w.heap.size + 1 + 1) 26 300 (fun _ => 0) := by rw [zcov]; exact (blk_new2 w _ _ _ _ _).alloc _
  have Z1 : Blk ((((w.alloc (.cells (arrv 300 p) 26)).alloc (.cells (arrv 24 H) 22)).alloc (.cells Tryz.zeroCells26 26)).alloc (.cells #[.int .i64 0, .int .i64 0, .int .i64 0, .int .i64 0, .int .i64 0, .int .i64 0, .int .i64 0, .int .i64 0, .int .i64 0, .int .i64 0, .int .i64 0, .int .i64 0, .int .i64 0, .int .i64 0, .int .i64 0, .int .i64 0, .int .i64 0, .int .i64 0, .int .i64 0, .int .i64 0, .int .i64 0, .int .i64 0, .int .i64 0, .int .i64 0] 22)) (w.heap.size + 1 + 1 + 1) 22 24 (fun _ => 0) := by rw [zcol]; exact blk_new3 w _ _ _ _ _ _
  have U0 : Upd c h w ((((w.alloc (.cells (arrv 300 p) 26)).alloc (.cells (arrv 24 H) 22)).alloc (.cells Tryz.zeroCells26 26)).alloc (.cells #[.int .i64 0, .int .i64 0, .int .i64 0, .int .i64 0, .int .i64 0, .int .i64 0, .int .i64 0, .int .i64 0, .int .i64 0, .int .i64 0, .int .i64 0, .int .i64 0, .int .i64 0, .int .i64 0, .int .i64 0, .int .i64 0, .int .i64 0, .int .i64 0, .int .i64 0, .int .i64 0, .int .i64 0, .int .i64 0, .int .i64 0, .int .i64 0] 22)) := Upd.then (Upd.refl hc) (by (repeat (first | with_reducible exact Below.refl _ _ | with_reducible apply Below.drew | (with_reducible refine below_drewN ?_ _) | (with_reducible refine Below.alloc ?_ (by (try simp) <;> omega) _) | (with_reducible refine Below.setCell ?_ (by (try simp) <;> omega) _))))
  clear hc hf
  go_upto_region 1 with fail
  generalize (((w.alloc (.cells (arrv 300 p) 26)).alloc (.cells (arrv 24 H) 22)).alloc (.cells Tryz.zeroCells26 26)).alloc (.cells #[.int .i64 0, .int .i64 0, .int .i64 0, .int .i64 0, .int .i64 0, .int .i64 0, .int .i64 0, .int .i64 0, .int .i64 0, .int .i64 0, .int .i64 0, .int .i64 0, .int .i64 0, .int .i64 0, .int .i64 0, .int .i64 0, .int .i64 0, .int .i64 0, .int .i64 0, .int .i64 0, .int .i64 0, .int .i64 0, .int .i64 0, .int .i64 0] 22) = W0 at *
  have PC := Lib.hid (rprep_any c h p H r W0 (U0.cellc HC.out) ((U0.frozen hcb).trans HF.out))
  have HU0 := Lib.hid U0
  have HZ := Lib.hid (And.intro Z0 Z1)
  clear U0 Z0 Z1
  obtain ⟨P, hP⟩ : ∃ x, condF p = x := ⟨_, rfl⟩
  obtain ⟨S, hS⟩ : ∃ x, satS H 24 = x := ⟨_, rfl⟩
  obtain ⟨R, hR⟩ : ∃ x, varV r = x := ⟨_, rfl⟩
  rw [hP, hS, hR] at PC
  have EPR := Lib.hid (And.intro hP (And.intro hS hR))
  clear hP hS hR
  obtain ⟨F, hF⟩ : ∃ x, bkF P S = x := ⟨_, rfl⟩
  obtain ⟨V, hV⟩ : ∃ x, bkV P S = x := ⟨_, rfl⟩
  obtain ⟨A, hA⟩ : ∃ x, bkA P S R = x := ⟨_, rfl⟩
  rw [hF, hV, hA] at PC
  have EFA := Lib.hid (And.intro hF (And.intro hV hA))
  clear hF hV hA
  obtain ⟨HU, hHU⟩ : ∃ x, (h || lkH p H r) = x := ⟨_, rfl⟩
  rw [hHU] at PC
  have EHU := Lib.hid hHU
  clear hHU
  refine wp_region_lit ?_
  refine wpList_val (v := ?_) rfl ?_ ?_
  rotate_left
  · (go_simp; (try (first | with_reducible rfl | (constructor <;> with_reducible rfl))))
  (try simp only [Act.put, nA, nB, nC])
  refine wpList_val (v := ?_) rfl ?_ ?_
  rotate_left
  · refine Eq.trans (run_load_row 26 (.tmp 5) (by rfl) (w.heap.size) (by rfl) _ _ _ _ (P0) Tryz.underlying26 rfl (icov.trans (by rw [arrv_size]))) ?_; with_reducible rfl
  (try simp only [Act.put, nA, nB, nC])
  refine wpList_val (v := ?_) rfl ?_ ?_
  rotate_left
  · refine Eq.trans (run_load_row 22 (.tmp 6) (by rfl) (w.heap.size + 1) (by rfl) _ _ _ _ (R0) Tryz.underlying22 rfl (icol.trans (by rw [arrv_size]))) ?_; with_reducible rfl
  (try simp only [Act.put, nA, nB, nC])
  refine wpList_val (v := ?_) rfl ?_ ?_
  rotate_left
  · (go_simp; (try (first | with_reducible rfl | (constructor <;> with_reducible rfl))))
  (try simp only [Act.put, nA, nB, nC])
  refine wpList_step (fun K hK => ?_)
  go_simp
  (refine PC.out.mono ?_); rintro e w1 ⟨rfl, hu1⟩; have HU1 := Lib.hid hu1; have P1 := P0.upd hu1 (by omega); clear hu1; obtain ⟨NP, n0⟩ := upd_new w1 w.heap.size p P F V A P1 _ rfl; obtain ⟨N1, n2⟩ := n0 _ rfl; obtain ⟨N2, n3⟩ := n2 _ rfl; obtain ⟨N3, n4⟩ := n3 _ rfl; have N4 := Lib.hid (n4 _ rfl); clear n0 n2 n3 n4
  (try dsimp only)
  (try simp only [Act.put, nA, nB, nC])
  refine hK _ _ ?_
  clear hK K
  refine wpList_val (v := ?_) rfl ?_ ?_
  rotate_left
  · (go_simp; (try (first | with_reducible rfl | (constructor <;> with_reducible rfl))))
  (try simp only [Act.put, nA, nB, nC])
  refine wpList_val (v := ?_) rfl ?_ ?_
  rotate_left
  · (go_simp; (try (first | with_reducible rfl | (constructor <;> with_reducible rfl))))
  (try simp only [Act.put, nA, nB, nC])
  refine wpList_val (v := ?_) rfl ?_ ?_
  rotate_left
  · (go_simp; (try (first | with_reducible rfl | (constructor <;> with_reducible rfl))))
  (try simp only [Act.put, nA, nB, nC])
  refine wpList_val (v := ?_) rfl ?_ ?_
  rotate_left
  · (go_simp; (try (first | with_reducible rfl | (constructor <;> with_reducible rfl))))
  (try simp only [Act.put, nA, nB, nC])
  refine wpList_val (v := ?_) rfl ?_ ?_
  rotate_left
  · (go_simp; (try (first | with_reducible rfl | (constructor <;> with_reducible rfl))))
  (try simp only [Act.put, nA, nB, nC])
  refine wpList_act (v := ?_) (w' := ?_) rfl ?_ ?_
  rotate_left 2
  · (go_simp; (try (first | with_reducible rfl | (constructor <;> with_reducible rfl))))
  (try simp only [Act.put, nA, nB, nC])
  refine wpList_act (v := ?_) (w' := ?_) rfl ?_ ?_
  rotate_left 2
  · (go_simp; (try (first | with_reducible rfl | (constructor <;> with_reducible rfl))))
  (try simp only [Act.put, nA, nB, nC])
  refine wpList_act (v := ?_) (w' := ?_) rfl ?_ ?_
  rotate_left 2
  · (go_simp; (try (first | with_reducible rfl | (constructor <;> with_reducible rfl))))
  (try simp only [Act.put, nA, nB, nC])
  refine wpList_done (w' := ?_) rfl ?_ ?_
  rotate_left
  · refine Eq.trans (run_store_row 26 (.tmp 5) (.tmp 27) (by rfl) (w.heap.size) (by rfl) (by rfl) (NP) (icov.trans rfl)) ?_; with_reducible rfl
  (try simp only [Act.put, nA, nB, nC])
  refine wpList_done (w' := ?_) rfl ?_ ?_
  rotate_left
  · refine Eq.trans (run_store_row 22 (.tmp 11) (.tmp 28) (by rfl) (w1.heap.size) (by rfl) (by rfl) (N1) (icol.trans rfl)) ?_; with_reducible rfl
  (try simp only [Act.put, nA, nB, nC])
  refine wpList_done (w' := ?_) rfl ?_ ?_
  rotate_left
  · refine Eq.trans (run_store_row 22 (.tmp 12) (.tmp 29) (by rfl) (w1.heap.size + 1) (by rfl) (by rfl) (N2) (icol.trans rfl)) ?_; with_reducible rfl
  (try simp only [Act.put, nA, nB, nC])
  refine wpList_done (w' := ?_) rfl ?_ ?_
  rotate_left
  · refine Eq.trans (run_store_row 89 (.tmp 13) (.tmp 30) (by rfl) (w1.heap.size + 1 + 1) (by rfl) (by rfl) (N3) (ia25.trans rfl)) ?_; with_reducible rfl
  (try simp only [Act.put, nA, nB, nC])
  refine wpList_nil ?_
  obtain ⟨W2, hW2⟩ : ∃ X, X = ((((((w1.alloc (.cells #[.int .i64 0, .int .i64 0, .int .i64 0, .int .i64 0, .int .i64 0, .int .i64 0, .int .i64 0, .int .i64 0, .int .i64 0, .int .i64 0, .int .i64 0, .int .i64 0, .int .i64 0, .int .i64 0, .int .i64 0, .int .i64 0, .int .i64 0, .int .i64 0, .int .i64 0, .int .i64 0, .int .i64 0, .int .i64 0, .int .i64 0, .int .i64 0] 22)).alloc (.cells #[.int .i64 0, .int .i64 0, .int .i64 0, .int .i64 0, .int .i64 0, .int .i64 0, .int .i64 0, .int .i64 0, .int .i64 0, .int .i64 0, .int .i64 0, .int .i64 0, .int .i64 0, .int .i64 0, .int .i64 0, .int .i64 0, .int .i64 0, .int .i64 0, .int .i64 0, .int .i64 0, .int .i64 0, .int .i64 0, .int .i64 0, .int .i64 0] 22)).alloc (.cells #[.int .i64 0, .int .i64 0, .int .i64 0, .int .i64 0, .int .i64 0, .int .i64 0, .int .i64 0, .int .i64 0, .int .i64 0, .int .i64 0, .int .i64 0, .int .i64 0, .int .i64 0, .int .i64 0, .int .i64 0, .int .i64 0, .int .i64 0, .int .i64 0, .int .i64 0, .int .i64 0, .int .i64 0, .int .i64 0, .int .i64 0, .int .i64 0, .int .i64 0] 89)).setRow w.heap.size (arrv 300 P)).setRow w1.heap.size (arrv 24 F)).setRow (w1.heap.size + 1) (arrv 24 V)).setRow (w1.heap.size + 1 + 1) (arrv 25 A) := ⟨_, rfl⟩
  rw [← hW2] at N4
  rw [← hW2]
  obtain ⟨q1, q2, q3, q4, q5, q6⟩ := N4.out
  have y0 := q6 _ _ _ _ (by omega) (HZ.out.1.upd HU1.out (by omega))
  have y1 := q6 _ _ _ _ (by omega) (HZ.out.2.upd HU1.out (by omega))
  have hord : w.heap.size + 3 < w1.heap.size := (HZ.out.2.upd HU1.out (by omega)).lt
  have S1 := Lib.hid (And.intro ((HU0.out.trans HU1.out).then' q5) (And.intro q1 (And.intro y0 (And.intro y1 (And.intro q2 (And.intro q3 q4))))))
  obtain ⟨fb, hfb⟩ : ∃ x, w1.heap.size = x := ⟨_, rfl⟩
  obtain ⟨vb, hvb⟩ : ∃ x, w1.heap.size + 1 = x := ⟨_, rfl⟩
  obtain ⟨ab, hab⟩ : ∃ x, w1.heap.size + 1 + 1 = x := ⟨_, rfl⟩
  rw [hab, hvb, hfb] at S1
  rw [hab, hvb, hfb]
  have h2 : fb < vb ∧ vb < ab := by omega
  rw [hfb] at hord
  clear hW2 N4 q1 q2 q3 q4 q5 q6 y0 y1 NP N1 N2 N3 P0 R0 P1 PC HZ HU0 HU1 hfb hvb hab W0
  have hab := S1.out.2.2.2.2.2.2.lt
  go_upto_region 3 with fail
  have S2 : UrR c HU fb vb ab W2.heap.size F V A P (fun _ => 0) w (W2.alloc (.cells #[.int .i64 0, .int .i64 0, .int .i64 0, .int .i64 0, .int .i64 0, .int .i64 0, .int .i64 0, .int .i64 0, .int .i64 0, .int .i64 0, .int .i64 0, .int .i64 0, .int .i64 0, .int .i64 0, .int .i64 0, .int .i64 0, .int .i64 0, .int .i64 0, .int .i64 0, .int .i64 0, .int .i64 0, .int .i64 0, .int .i64 0, .int .i64 0] 22)) := by
    rw [zcol]
    obtain ⟨s0, s1, s2, s3, s4, s5, s6⟩ := S1.out
    exact ⟨s0.alloc _, s1.alloc _, s2.alloc _, s3.alloc _, s4.alloc _, s5.alloc _, s6.alloc _, Blk.new W2 _ _ _, hord, h2.1, h2.2, hab⟩
  generalize W2.alloc (.cells #[.int .i64 0, .int .i64 0, .int .i64 0, .int .i64 0, .int .i64 0, .int .i64 0, .int .i64 0, .int .i64 0, .int .i64 0, .int .i64 0, .int .i64 0, .int .i64 0, .int .i64 0, .int .i64 0, .int .i64 0, .int .i64 0, .int .i64 0, .int .i64 0, .int .i64 0, .int .i64 0, .int .i64 0, .int .i64 0, .int .i64 0, .int .i64 0] 22) = W3 at *
  obtain ⟨bb, hbb⟩ : ∃ x, W2.heap.size = x := ⟨_, rfl⟩
  rw [hbb] at S2
  rw [hbb]
  have HS2 := Lib.hid S2
  have hord := S2.ord
  clear S1 S2 hbb hab h2 W2 w1
  go_wp2_with fail
  go_loopw [15] (fun i wr => ∃ j : Nat, j ≤ 24 ∧ i = .int .i64 j ∧ Hid (UrR c (HU || orB (upCH P S R) j) fb vb ab bb F V A (upO P S R j) (upB P S j) w wr)) (fun i _ => 24 - (intOf i).toNat)
  case atStart =>
    refine ⟨0, by omega, rfl, ?_⟩
    rw [show (HU || orB (upCH P S R) 0) = HU from by simp [orB]]
    exact Lib.hid (HS2.out.cong (fun _ _ => rfl) (fun _ _ => rfl))
  case round =>
    obtain ⟨j, hj, rfl, Q⟩ := hrel
    clear HS2
    by_cases hlt : j < 24
    · have d1 : decide ((j : Int) < 24) = true := by simp; omega
      have k0 : (0 : Int) ≤ (j : Int) := Int.natCast_nonneg _
      have k1 : (j : Int) < 24 := by omega
      have k2 : (j : Int) < 25 := by omega
      have k3 : (0 : Int) ≤ (j : Int) + 1 := by omega
      have k4 : (j : Int) + 1 < 25 := by omega
      have k5 : ((j : Int) + 1).toNat = j + 1 := by omega
      have iw : IntKind.i64.wrap ((j : Int) + 1) = (j : Int) + 1 := IntWalk.i64_in _ (by omega)
      obtain ⟨HJ, hHJ⟩ : ∃ x, (HU || orB (upCH P S R) j) = x := ⟨_, rfl⟩
      obtain ⟨PD, hPD⟩ : ∃ x, P (276 + j) = x := ⟨_, rfl⟩
      obtain ⟨AV, hAV⟩ : ∃ x, A j = x := ⟨_, rfl⟩
      obtain ⟨AW, hAW⟩ : ∃ x, A (j + 1) = x := ⟨_, rfl⟩
      obtain ⟨FV, hFV⟩ : ∃ x, F j = x := ⟨_, rfl⟩
      obtain ⟨VV, hVV⟩ : ∃ x, V j = x := ⟨_, rfl⟩
      rw [hHJ] at Q
      have m0 := Q.out.pB.cell (i := 276 + j) (by omega)
      have m1 := Q.out.aB.cell (i := j) (by omega)
      have m2 := Q.out.aB.cell (i := j + 1) (by omega)
      rw [(upO_keep P S R j (by omega)).1 j (Nat.le_refl _) hlt, hPD] at m0
      rw [hAV] at m1
      rw [hAW] at m2
      have rc := Q.out.up.cellc HC.out
      have rf := (Q.out.up.frozen hcb).trans HF.out
      have MC := Lib.hid (rmd_any c HJ PD AV AW wr.drew rc rf)
      obtain ⟨MD, hMD⟩ : ∃ x, mdivV PD AV AW = x := ⟨_, rfl⟩
      obtain ⟨MH, hMH⟩ : ∃ x, mdivH PD AV AW = x := ⟨_, rfl⟩
      rw [hMD, hMH] at MC
      have EJ := Lib.hid (And.intro hHJ (And.intro hPD (And.intro hAV (And.intro hAW (And.intro hFV (And.intro hVV (And.intro hMD hMH)))))))
      clear hHJ hPD hAV hAW hFV hVV hMD hMH rc rf
      go_upto_region 6 with fail
      refine wp_region_M (fun w' => w'.cell? ⟨w.heap.size, 276 + j, none⟩ = some (.int .i64 PD) ∧ w'.cell? ⟨ab, j, none⟩ = some (.int .i64 AV) ∧ w'.cell? ⟨ab, j + 1, none⟩ = some (.int .i64 AW)) 19 (by kernel_rfl) ?_ (fun hHeld => ?_)
      · exact ⟨m0, m1, m2⟩
      refine wpAnyM_take 0 (v := ?_) rfl (by kernel_rfl) (fun _ _ _ h => h) (Or.inl ⟨by rfl, ?_⟩) (by assumption) ?_
      rotate_left
      · (intro wx hSw; (try dsimp only at hSw); go_simp; (try with_reducible rfl))
      (try simp only [Act.put, nA, nB, nC])
      refine wpAnyM_take 1 (v := ?_) rfl (by kernel_rfl) (fun _ _ _ h => h) (Or.inl ⟨by rfl, ?_⟩) (by assumption) ?_
      rotate_left
      · (intro wx hSw; (try dsimp only at hSw); go_simp; (try with_reducible rfl))
      (try simp only [Act.put, nA, nB, nC])
      refine wpAnyM_take 2 (v := ?_) rfl (by kernel_rfl) (fun _ _ _ h => h) (Or.inl ⟨by rfl, ?_⟩) (by assumption) ?_
      rotate_left
      · (intro wx hSw; (try dsimp only at hSw); go_simp; (try with_reducible rfl))
      (try simp only [Act.put, nA, nB, nC])
      refine wpAnyM_take 3 (v := ?_) rfl (by kernel_rfl) (fun _ _ _ h => h) (Or.inl ⟨by rfl, ?_⟩) (by assumption) ?_
      rotate_left
      · (intro wx hSw; (try dsimp only at hSw); go_simp; (try with_reducible rfl))
      (try simp only [Act.put, nA, nB, nC])
      refine wpAnyM_take 4 (v := ?_) rfl (by kernel_rfl) (fun _ _ _ h => h) (Or.inl ⟨by rfl, ?_⟩) (by assumption) ?_
      rotate_left
      · (intro wx hSw; (try dsimp only at hSw); go_simp; (try with_reducible rfl))
      (try simp only [Act.put, nA, nB, nC])
      refine wpAnyM_take 5 (v := ?_) rfl (by kernel_rfl) (fun _ _ _ h => h) (Or.inl ⟨by rfl, ?_⟩) (by assumption) ?_
      rotate_left
      · (intro wx hSw; (try dsimp only at hSw); go_simp; (try with_reducible rfl))
      (try simp only [Act.put, nA, nB, nC])
      refine wpAnyM_take 6 (v := ?_) rfl (by kernel_rfl) (fun _ _ _ h => h) (Or.inl ⟨by rfl, ?_⟩) (by assumption) ?_
      rotate_left
      · (intro wx hSw; (try dsimp only at hSw); go_simp; (try with_reducible rfl))
      (try simp only [Act.put, nA, nB, nC])
      refine wpAnyM_take 7 (v := ?_) rfl (by kernel_rfl) (fun _ _ _ h => h) (Or.inl ⟨by rfl, ?_⟩) (by assumption) ?_
      rotate_left
      · (intro wx hSw; (try dsimp only at hSw); go_simp; (try with_reducible rfl))
      (try simp only [Act.put, nA, nB, nC])
      refine wpAnyM_take 8 (v := ?_) rfl (by kernel_rfl) (fun _ _ _ h => h) (Or.inl ⟨by rfl, ?_⟩) (by assumption) ?_
      rotate_left
      · (intro wx hSw; (try dsimp only at hSw); go_simp; (try with_reducible rfl))
      (try simp only [Act.put, nA, nB, nC])
      refine wpAnyM_take 9 (v := ?_) rfl (by kernel_rfl) (fun _ _ _ h => h) (Or.inl ⟨by rfl, ?_⟩) (by assumption) ?_
      rotate_left
      · (intro wx hSw; (try dsimp only at hSw); go_simp; (try with_reducible rfl))
      (try simp only [Act.put, nA, nB, nC])
      refine wpAnyM_take 10 (v := ?_) rfl (by kernel_rfl) (fun _ _ _ h => h) (Or.inl ⟨by rfl, ?_⟩) (by assumption) ?_
      rotate_left
      · (intro wx hSw; (try dsimp only at hSw); go_simp; (try with_reducible rfl))
      (try simp only [Act.put, nA, nB, nC])
      refine wpAnyM_take 11 (v := ?_) rfl (by kernel_rfl) (fun _ _ _ h => h) (Or.inl ⟨by rfl, ?_⟩) (by assumption) ?_
      rotate_left
      · (intro wx hSw; (try dsimp only at hSw); go_simp; (try with_reducible rfl))
      (try simp only [Act.put, nA, nB, nC])
      refine wpAnyM_take 12 (v := ?_) rfl (by kernel_rfl) (fun _ _ _ h => h) (Or.inl ⟨by rfl, ?_⟩) (by assumption) ?_
      rotate_left
      · (intro wx hSw; (try dsimp only at hSw); go_simp; (try with_reducible rfl))
      (try simp only [Act.put, nA, nB, nC])
      refine wpAnyM_take 13 (v := ?_) rfl (by kernel_rfl) (fun _ _ _ h => h) (Or.inl ⟨by rfl, ?_⟩) (by assumption) ?_
      rotate_left
      · (intro wx hSw; (try dsimp only at hSw); go_simp; (try with_reducible rfl))
      (try simp only [Act.put, nA, nB, nC])
      refine wpAnyM_take 14 (v := ?_) rfl (by kernel_rfl) (fun _ _ _ h => h) (Or.inl ⟨by rfl, ?_⟩) (by assumption) ?_
      rotate_left
      · (intro wx hSw; (try dsimp only at hSw); go_simp; (try with_reducible rfl))
      (try simp only [Act.put, nA, nB, nC])
      refine wpAnyM_take 15 (v := ?_) rfl (by kernel_rfl) (fun _ _ _ h => h) (Or.inl ⟨by rfl, ?_⟩) (by assumption) ?_
      rotate_left
      · (intro wx hSw; (try dsimp only at hSw); go_simp; (try with_reducible rfl))
      (try simp only [Act.put, nA, nB, nC])
      refine wpAnyM_take 16 (v := ?_) rfl (by kernel_rfl) (fun _ _ _ h => h) (Or.inl ⟨by rfl, ?_⟩) (by assumption) ?_
      rotate_left
      · (intro wx hSw; (try dsimp only at hSw); go_simp; (try with_reducible rfl))
      (try simp only [Act.put, nA, nB, nC])
      refine wpAnyM_oneS 17 rfl (by kernel_rfl) (fun K hK => ?_)
      go_simp
      (refine MC.out.mono ?_); rintro e w4 ⟨rfl, hu4⟩; have L4 := Lib.hid (Q.out.upd' hcb (Upd.after (Below.drew (Below.refl _ _)) hu4)); have kp := (show _ ∧ _ ∧ _ from ⟨(L4.out.pB.cell (i := 276 + j) (by omega)).trans (by rw [(upO_keep P S R j (by omega)).1 j (Nat.le_refl _) hlt, EJ.out.2.1]), (L4.out.aB.cell (i := j) (by omega)).trans (by rw [EJ.out.2.2.1]), (L4.out.aB.cell (i := j + 1) (by omega)).trans (by rw [EJ.out.2.2.2.1])⟩); have kc := L4.out.up.cellc HC.out; have kf := (L4.out.up.frozen hcb).trans HF.out; clear hu4 m0 m1 m2
      (try dsimp only)
      (try simp only [Act.put, nA, nB, nC])
      clear hHeld
      refine hK.out _ _ ?_ (fun hHeld => ?_)
      · exact kp
      clear hK K
      (try simp only [Act.put, nA, nB, nC])
      refine wpAnyM_oneS 18 rfl (by kernel_rfl) (fun K hK => ?_)
      go_simp
      (refine (rclamp_any c _ MD 1 72057594037927936 _ kc kf).mono ?_); rintro e w5 ⟨rfl, hw5⟩; have U5 : Upd c (HJ || MH || varH MD) w4 w5 := (by rw [← hw5]; exact Upd.set c _ _); have L5 := Lib.hid (L4.out.upd' hcb U5); have kp2 := (show _ ∧ _ ∧ _ from ⟨(L5.out.pB.cell (i := 276 + j) (by omega)).trans (by rw [(upO_keep P S R j (by omega)).1 j (Nat.le_refl _) hlt, EJ.out.2.1]), (L5.out.aB.cell (i := j) (by omega)).trans (by rw [EJ.out.2.2.1]), (L5.out.aB.cell (i := j + 1) (by omega)).trans (by rw [EJ.out.2.2.2.1])⟩); clear hw5 U5
      (try dsimp only)
      (try simp only [Act.put, nA, nB, nC])
      clear hHeld
      refine hK.out _ _ ?_ (fun hHeld => ?_)
      · exact kp2
      clear hK K
      (try simp only [Act.put, nA, nB, nC])
      refine wpAnyM_one 19 rfl (by kernel_rfl) (fun K hK => ?_)
      go_simp
      refine hK.out _ _ (.inl (by kernel_rfl)) (fun _ => ?_)
      clear hK K
      (try simp only [Act.put, nA, nB, nC])
      refine wpAnyM_done (by kernel_rfl) ?_ _
      obtain ⟨UD, hUD⟩ : ∃ x, clampV MD 1 72057594037927936 = x := ⟨_, rfl⟩
      rw [hUD]
      obtain ⟨HK, hHK⟩ : ∃ x, (HJ || MH || varH MD) = x := ⟨_, rfl⟩
      rw [hHK] at L5
      have m0 := L5.out.fB.cell (i := j) (by omega)
      have m1 := L5.out.aB.cell (i := j) (by omega)
      rw [EJ.out.2.2.2.2.1] at m0
      rw [EJ.out.2.2.1] at m1
      have rc := L5.out.up.cellc HC.out
      have rf := (L5.out.up.frozen hcb).trans HF.out
      have XC := Lib.hid (rdiv44_any c HK FV AV w5.drew rc rf)
      have bX := divV_bd2 FV AV 44
      obtain ⟨XV, hXV⟩ : ∃ x, divV FV AV 44 = x := ⟨_, rfl⟩
      obtain ⟨XH, hXH⟩ : ∃ x, divH FV AV 44 = x := ⟨_, rfl⟩
      rw [hXV] at bX
      rw [hXV, hXH] at XC
      obtain ⟨YV, hYV⟩ : ∃ x, -XV = x := ⟨_, rfl⟩
      have ew : IntKind.i64.wrap (-XV) = YV := by rw [hYV]; exact IntWalk.i64_in _ (by omega)
      have EK := Lib.hid (And.intro hUD (And.intro hHK (And.intro hXV (And.intro hXH hYV))))
      clear hUD hHK hXV hXH hYV bX rc rf kc kf kp kp2 L4 MC Q hHeld
      go_upto_region 7 with fail
      refine wp_region_M (fun w' => w'.cell? ⟨fb, j, none⟩ = some (.int .i64 FV) ∧ w'.cell? ⟨ab, j, none⟩ = some (.int .i64 AV)) 11 (by kernel_rfl) ?_ (fun hHeld => ?_)
      · exact ⟨m0, m1⟩
      refine wpAnyM_take 0 (v := ?_) rfl (by kernel_rfl) (fun _ _ _ h => h) (Or.inl ⟨by rfl, ?_⟩) (by assumption) ?_
      rotate_left
      · (intro wx hSw; (try dsimp only at hSw); go_simp; (try with_reducible rfl))
      (try simp only [Act.put, nA, nB, nC])
      refine wpAnyM_take 1 (v := ?_) rfl (by kernel_rfl) (fun _ _ _ h => h) (Or.inl ⟨by rfl, ?_⟩) (by assumption) ?_
      rotate_left
      · (intro wx hSw; (try dsimp only at hSw); go_simp; (try with_reducible rfl))
      (try simp only [Act.put, nA, nB, nC])
      refine wpAnyM_take 2 (v := ?_) rfl (by kernel_rfl) (fun _ _ _ h => h) (Or.inl ⟨by rfl, ?_⟩) (by assumption) ?_
      rotate_left
      · (intro wx hSw; (try dsimp only at hSw); go_simp; (try with_reducible rfl))
      (try simp only [Act.put, nA, nB, nC])
      refine wpAnyM_take 3 (v := ?_) rfl (by kernel_rfl) (fun _ _ _ h => h) (Or.inl ⟨by rfl, ?_⟩) (by assumption) ?_
      rotate_left
      · (intro wx hSw; (try dsimp only at hSw); go_simp; (try with_reducible rfl))
      (try simp only [Act.put, nA, nB, nC])
      refine wpAnyM_take 4 (v := ?_) rfl (by kernel_rfl) (fun _ _ _ h => h) (Or.inl ⟨by rfl, ?_⟩) (by assumption) ?_
      rotate_left
      · (intro wx hSw; (try dsimp only at hSw); go_simp; (try with_reducible rfl))
      (try simp only [Act.put, nA, nB, nC])
      refine wpAnyM_take 5 (v := ?_) rfl (by kernel_rfl) (fun _ _ _ h => h) (Or.inl ⟨by rfl, ?_⟩) (by assumption) ?_
      rotate_left
      · (intro wx hSw; (try dsimp only at hSw); go_simp; (try with_reducible rfl))
      (try simp only [Act.put, nA, nB, nC])
      refine wpAnyM_take 6 (v := ?_) rfl (by kernel_rfl) (fun _ _ _ h => h) (Or.inl ⟨by rfl, ?_⟩) (by assumption) ?_
      rotate_left
      · (intro wx hSw; (try dsimp only at hSw); go_simp; (try with_reducible rfl))
      (try simp only [Act.put, nA, nB, nC])
      refine wpAnyM_take 7 (v := ?_) rfl (by kernel_rfl) (fun _ _ _ h => h) (Or.inl ⟨by rfl, ?_⟩) (by assumption) ?_
      rotate_left
      · (intro wx hSw; (try dsimp only at hSw); go_simp; (try with_reducible rfl))
      (try simp only [Act.put, nA, nB, nC])
      refine wpAnyM_take 8 (v := ?_) rfl (by kernel_rfl) (fun _ _ _ h => h) (Or.inl ⟨by rfl, ?_⟩) (by assumption) ?_
      rotate_left
      · (intro wx hSw; (try dsimp only at hSw); go_simp; (try with_reducible rfl))
      (try simp only [Act.put, nA, nB, nC])
      refine wpAnyM_oneS 9 rfl (by kernel_rfl) (fun K hK => ?_)
      go_simp
      (refine XC.out.mono ?_); rintro e w6 ⟨rfl, hu6⟩; have L6 := Lib.hid (L5.out.upd' hcb (Upd.after (Below.drew (Below.refl _ _)) hu6)); have kp := (show _ ∧ _ from ⟨(L6.out.fB.cell (i := j) (by omega)).trans (by rw [EJ.out.2.2.2.2.1]), (L6.out.aB.cell (i := j) (by omega)).trans (by rw [EJ.out.2.2.1])⟩); clear hu6 m0 m1
      (try dsimp only)
      (try simp only [Act.put, nA, nB, nC])
      clear hHeld
      refine hK.out _ _ ?_ (fun hHeld => ?_)
      · exact kp
      clear hK K
      (try simp only [Act.put, nA, nB, nC])
      refine wpAnyM_take 10 (v := ?_) rfl (by kernel_rfl) (fun _ _ _ h => h) (Or.inl ⟨by rfl, ?_⟩) (by assumption) ?_
      rotate_left
      · (intro wx hSw; (try dsimp only at hSw); go_simp; (try with_reducible rfl))
      (try simp only [Act.put, nA, nB, nC])
      refine wpAnyM_one 11 rfl (by kernel_rfl) (fun K hK => ?_)
      go_simp
      refine hK.out _ _ (.inl (by kernel_rfl)) (fun _ => ?_)
      clear hK K
      (try simp only [Act.put, nA, nB, nC])
      refine wpAnyM_done (by kernel_rfl) ?_ _
      obtain ⟨HX, hHX⟩ : ∃ x, (HK || XH) = x := ⟨_, rfl⟩
      rw [hHX] at L6
      have EX := Lib.hid hHX
      have n0 := L6.out.vB.cell (i := j) (by omega)
      rw [EJ.out.2.2.2.2.2.1] at n0
      have n1 := L6.out.bB.cell (i := j) (by omega)
      have n2 := L6.out.bB.free j
      clear hHX kp XC L5 ew hHeld
      go_upto_region 9 with fail
      have L7 : Hid (UrR c (HX || orB (upRH P S R j) 0) fb vb ab bb F V A (rOm (upO P S R j) P S R j 0) (upBm P S j 0) w (w6.setCell ⟨bb, j, none⟩ (.int .i64 VV))) := by
        rw [show (HX || orB (upRH P S R j) 0) = HX from by simp [orB]]
        refine Lib.hid ((L6.out.setB j VV).cong (fun _ _ => rfl) (fun x hx => ?_))
        simp only [Go.Proofs.YtiajjiphknlldaaGreat.upd, upBm]
        by_cases h1 : x = j
        · rw [if_pos h1, if_pos h1, ← EJ.out.2.2.2.2.2.1, ← EFA.out.2.1]
        · rw [if_neg h1, if_neg h1, if_neg (by omega)]
      generalize w6.setCell ⟨bb, j, none⟩ (.int .i64 VV) = W7 at *
      clear n0 n1 n2 L6
      go_wp2_with fail
      go_loopw [18] (fun v wr => ∃ m : Nat, m ≤ j ∧ v = .int .i64 m ∧ Hid (UrR c (HX || orB (upRH P S R j) m) fb vb ab bb F V A (rOm (upO P S R j) P S R j m) (upBm P S j m) w wr)) (fun v _ => j - (intOf v).toNat)
      case atStart => exact ⟨0, by omega, rfl, L7⟩
      case round =>
        obtain ⟨m, hm, rfl, Q⟩ := hrel
        clear L7
        by_cases hmj : m < j
        · have d2 : decide (m < j) = true := by simp; omega
          have m0 : (0 : Int) ≤ (m : Int) := Int.natCast_nonneg _
          have m1 : (m : Int) < 24 := by omega
          have hp := pl_lt (i := m) (j := j) hmj hlt
          obtain ⟨pp, hpp⟩ : ∃ x, pl m j = x := ⟨_, rfl⟩
          have PL := Lib.hid (fun w => rplace_any m j w (by omega) hlt hmj)
          rw [hpp] at PL hp
          have UC := Lib.hid (rU_any (rOm (upO P S R j) P S R j m) w.heap.size m j wr (by omega) hlt Q.out.pB)
          rw [rOm_uV P S R hlt hmj] at UC
          obtain ⟨UV, hUV⟩ : ∃ x, uV P m j = x := ⟨_, rfl⟩
          rw [hUV] at UC
          obtain ⟨BV, hBV⟩ : ∃ x, upB P S j m = x := ⟨_, rfl⟩
          have eB : upBm P S j m m = BV := by unfold upBm; rw [if_neg (by omega), if_neg (by omega)]; exact hBV
          have EU := Lib.hid (And.intro hpp (And.intro hUV (And.intro hBV eB)))
          clear hpp hUV hBV eB
          go_upto_region 13 with (go_at_call 54; (refine UC.out.mono ?_); rintro e w8 ⟨rfl, hb8⟩; have L8 := Lib.hid (Q.out.below hb8); clear hb8)
          have x0 := L8.out.bB.cell (i := m) (by omega)
          rw [EU.out.2.2.2] at x0
          have x1 := L8.out.pB.cell (i := pp) (by omega)
          have x2 := L8.out.pB.free pp
          have rc := L8.out.up.cellc HC.out
          have rf := (L8.out.up.frozen hcb).trans HF.out
          obtain ⟨HM, hHM⟩ : ∃ x, (HX || orB (upRH P S R j) m) = x := ⟨_, rfl⟩
          rw [hHM] at L8 rc
          have MC := Lib.hid (rmul44_any c HM BV YV w8.drew rc rf)
          obtain ⟨MV, hMV⟩ : ∃ x, mulV BV YV 44 = x := ⟨_, rfl⟩
          obtain ⟨MM, hMM⟩ : ∃ x, mulH BV YV 44 = x := ⟨_, rfl⟩
          rw [hMV, hMM] at MC
          have EM := Lib.hid (And.intro hHM (And.intro hMV hMM))
          have pz0 : (0 : Int) ≤ (pp : Int) := Int.natCast_nonneg _
          have pz1 : (pp : Int) < 276 := by omega
          clear hHM hMV hMM rc rf Q UC
          have EY : Hid (upX P S R j = YV) := Lib.hid (by rw [(ur_col EJ.out.1 EJ.out.2.1 (by rw [EFA.out.2.2]; exact EJ.out.2.2.1) (by rw [EFA.out.2.2]; exact EJ.out.2.2.2.1) (by rw [EFA.out.1]; exact EJ.out.2.2.2.2.1) EJ.out.2.2.2.2.2.2.1 EJ.out.2.2.2.2.2.2.2 EK.out.2.2.1 EK.out.2.2.2.1 EK.out.2.1 EX.out).2.2]; exact EK.out.2.2.2.2)
          obtain ⟨NV, hNV⟩ : ∃ x, mulV UV VV 30 = x := ⟨_, rfl⟩
          obtain ⟨NM, hNM⟩ : ∃ x, mulH UV VV 30 = x := ⟨_, rfl⟩
          have ST := Lib.hid (ur_step EU.out.2.1 EU.out.2.2.1 (by rw [EFA.out.2.1]; exact EJ.out.2.2.2.2.2.1) EY.out EM.out.2.1 EM.out.2.2 hNV hNM EM.out.1)
          have EN := Lib.hid (And.intro hNV hNM)
          clear hNV hNM
          refine wp_region_M (fun w' => w'.cell? ⟨bb, m, none⟩ = some (.int .i64 BV)) 18 (by kernel_rfl) ?_ (fun hHeld => ?_)
          · exact x0
          refine wpAnyM_take 0 (v := ?_) rfl (by kernel_rfl) (fun _ _ _ h => h) (Or.inl ⟨by rfl, ?_⟩) (by assumption) ?_
          rotate_left
          · (intro wx hSw; (try dsimp only at hSw); go_simp; (try with_reducible rfl))
          (try simp only [Act.put, nA, nB, nC])
          refine wpAnyM_take 1 (v := ?_) rfl (by kernel_rfl) (fun _ _ _ h => h) (Or.inl ⟨by rfl, ?_⟩) (by assumption) ?_
          rotate_left
          · (intro wx hSw; (try dsimp only at hSw); go_simp; (try with_reducible rfl))
          (try simp only [Act.put, nA, nB, nC])
          refine wpAnyM_take 3 (v := ?_) rfl (by kernel_rfl) (fun _ _ _ h => h) (Or.inl ⟨by rfl, ?_⟩) (by assumption) ?_
          rotate_left
          · (intro wx hSw; (try dsimp only at hSw); go_simp; (try with_reducible rfl))
          (try simp only [Act.put, nA, nB, nC])
          refine wpAnyM_take 4 (v := ?_) rfl (by kernel_rfl) (fun _ _ _ h => h) (Or.inl ⟨by rfl, ?_⟩) (by assumption) ?_
          rotate_left
          · (intro wx hSw; (try dsimp only at hSw); go_simp; (try with_reducible rfl))
          (try simp only [Act.put, nA, nB, nC])
          refine wpAnyM_take 5 (v := ?_) rfl (by kernel_rfl) (fun _ _ _ h => h) (Or.inl ⟨by rfl, ?_⟩) (by assumption) ?_
          rotate_left
          · (intro wx hSw; (try dsimp only at hSw); go_simp; (try with_reducible rfl))
          (try simp only [Act.put, nA, nB, nC])
          refine wpAnyM_take 6 (v := ?_) rfl (by kernel_rfl) (fun _ _ _ h => h) (Or.inl ⟨by rfl, ?_⟩) (by assumption) ?_
          rotate_left
          · (intro wx hSw; (try dsimp only at hSw); go_simp; (try with_reducible rfl))
          (try simp only [Act.put, nA, nB, nC])
          refine wpAnyM_take 7 (v := ?_) rfl (by kernel_rfl) (fun _ _ _ h => h) (Or.inl ⟨by rfl, ?_⟩) (by assumption) ?_
          rotate_left
          · (intro wx hSw; (try dsimp only at hSw); go_simp; (try with_reducible rfl))
          (try simp only [Act.put, nA, nB, nC])
          refine wpAnyM_take 8 (v := ?_) rfl (by kernel_rfl) (fun _ _ _ h => h) (Or.inl ⟨by rfl, ?_⟩) (by assumption) ?_
          rotate_left
          · (intro wx hSw; (try dsimp only at hSw); go_simp; (try with_reducible rfl))
          (try simp only [Act.put, nA, nB, nC])
          refine wpAnyM_take 9 (v := ?_) rfl (by kernel_rfl) (fun _ _ _ h => h) (Or.inl ⟨by rfl, ?_⟩) (by assumption) ?_
          rotate_left
          · (intro wx hSw; (try dsimp only at hSw); go_simp; (try with_reducible rfl))
          (try simp only [Act.put, nA, nB, nC])
          refine wpAnyM_take 10 (v := ?_) rfl (by kernel_rfl) (fun _ _ _ h => h) (Or.inl ⟨by rfl, ?_⟩) (by assumption) ?_
          rotate_left
          · (intro wx hSw; (try dsimp only at hSw); go_simp; (try with_reducible rfl))
          (try simp only [Act.put, nA, nB, nC])
          refine wpAnyM_take 11 (v := ?_) rfl (by kernel_rfl) (fun _ _ _ h => h) (Or.inl ⟨by rfl, ?_⟩) (by assumption) ?_
          rotate_left
          · (intro wx hSw; (try dsimp only at hSw); go_simp; (try with_reducible rfl))
          (try simp only [Act.put, nA, nB, nC])
          refine wpAnyM_take 12 (v := ?_) rfl (by kernel_rfl) (fun _ _ _ h => h) (Or.inl ⟨by rfl, ?_⟩) (by assumption) ?_
          rotate_left
          · (intro wx hSw; (try dsimp only at hSw); go_simp; (try with_reducible rfl))
          (try simp only [Act.put, nA, nB, nC])
          refine wpAnyM_take 13 (v := ?_) rfl (by kernel_rfl) (fun _ _ _ h => h) (Or.inl ⟨by rfl, ?_⟩) (by assumption) ?_
          rotate_left
          · (intro wx hSw; (try dsimp only at hSw); go_simp; (try with_reducible rfl))
          (try simp only [Act.put, nA, nB, nC])
          refine wpAnyM_takeW 16 (v := ?_) rfl (by kernel_rfl) (fun _ _ _ h => h) (Or.inl ⟨by rfl, ?_⟩) (.inr (by assumption)) ?_
          rotate_left
          · (intro wx hSw; (try dsimp only at hSw); go_simp; (try with_reducible rfl))
          (try simp only [Act.put, nA, nB, nC])
          refine wpAnyM_oneS 2 rfl (by kernel_rfl) (fun K hK => ?_)
          go_simp
          (refine (PL.out _).mono ?_); rintro e w' ⟨rfl, rfl⟩
          (try dsimp only)
          (try simp only [Act.put, nA, nB, nC])
          clear hHeld
          refine hK.out _ _ ?_ (fun hHeld => ?_)
          · exact x0
          clear hK K
          (try simp only [Act.put, nA, nB, nC])
          refine wpAnyM_oneS 14 rfl (by kernel_rfl) (fun K hK => ?_)
          go_simp
          (refine MC.out.mono ?_); rintro e w9 ⟨rfl, hu9⟩; have L9 := Lib.hid (L8.out.upd' hcb (Upd.after (Below.drew (Below.refl _ _)) hu9)); have kp := (L9.out.bB.cell (i := m) (by omega)).trans (by rw [EU.out.2.2.2]); have kc := L9.out.up.cellc HC.out; have kf := (L9.out.up.frozen hcb).trans HF.out; clear hu9
          (try dsimp only)
          (try simp only [Act.put, nA, nB, nC])
          clear hHeld
          refine hK.out _ _ ?_ (fun hHeld => ?_)
          · exact kp
          clear hK K
          (try simp only [Act.put, nA, nB, nC])
          refine wpAnyM_oneS 15 rfl (by kernel_rfl) (fun K hK => ?_)
          go_simp
          (refine (rplus_any c _ UV MV _ kc kf).mono ?_); rintro e w10 ⟨rfl, hw10⟩; have U10 : Upd c (HM || MM || addH UV MV) w9 w10 := (by rw [← hw10, show (HM || MM || addH UV MV) = (HM || MM || satH UV || satH MV || satH (satV UV + satV MV)) from by simp only [addH, Bool.or_assoc]]; exact Upd.set c _ _); have L10 := Lib.hid (L9.out.upd' hcb U10); have kp2 := (L10.out.bB.cell (i := m) (by omega)).trans (by rw [EU.out.2.2.2]); have y1 := L10.out.pB.cell (i := pp) (by omega); have y2 := L10.out.pB.free pp; clear hw10 U10
          (try dsimp only)
          (try simp only [Act.put, nA, nB, nC])
          clear hHeld
          refine hK.out _ _ ?_ (fun hHeld => ?_)
          · exact kp2
          clear hK K
          (try simp only [Act.put, nA, nB, nC])
          refine wpAnyM_take 17 (v := ?_) rfl (by kernel_rfl) (fun _ _ _ h => h) (Or.inl ⟨by rfl, ?_⟩) (by assumption) ?_
          rotate_left
          · (intro wx hSw; (try dsimp only at hSw); go_simp; (try with_reducible rfl))
          (try simp only [Act.put, nA, nB, nC])
          refine wpAnyM_one 18 rfl (by kernel_rfl) (fun K hK => ?_)
          go_simp
          refine hK.out _ _ (.inl (by kernel_rfl)) (fun _ => ?_)
          clear hK K
          (try simp only [Act.put, nA, nB, nC])
          refine wpAnyM_done (by kernel_rfl) ?_ _
          have L11 : Hid (UrR c (HM || MM || addH UV MV) fb vb ab bb F V A (rOm (upO P S R j) P S R j (m + 1)) (upBm P S j m) w (w10.setCell ⟨w.heap.size, pp, none⟩ (.int .i64 (satV (satV UV + satV MV))))) := by
            refine Lib.hid ((L10.out.setP pp (satV (satV UV + satV MV))).cong (fun x hx => ?_) (fun _ _ => rfl))
            simp only [rOm]
            rw [EU.out.1, ST.out.2.1]; rfl
          generalize w10.setCell ⟨w.heap.size, pp, none⟩ (.int .i64 (satV (satV UV + satV MV))) = W11 at *
          clear x0 x1 x2 y1 y2 kp kp2 kc kf L8 L9 L10 MC PL pz0 pz1 hHeld
          obtain ⟨HN, hHN⟩ : ∃ x, (HM || MM || addH UV MV) = x := ⟨_, rfl⟩
          rw [hHN] at L11
          have EHN := Lib.hid hHN
          clear hHN
          have x0 := L11.out.bB.cell (i := m) (by omega)
          rw [EU.out.2.2.2] at x0
          have x1 := L11.out.vB.cell (i := j) (by omega)
          rw [EJ.out.2.2.2.2.2.1] at x1
          have rc := L11.out.up.cellc HC.out
          have rf := (L11.out.up.frozen hcb).trans HF.out
          have MC := Lib.hid (rm_any c HN UV VV W11.drew rc rf)
          rw [EN.out.1, EN.out.2] at MC
          clear rc rf
          go_upto_region 14 with fail
          refine wp_region_M (fun w' => w'.cell? ⟨bb, m, none⟩ = some (.int .i64 BV) ∧ w'.cell? ⟨vb, j, none⟩ = some (.int .i64 VV)) 17 (by kernel_rfl) ?_ (fun hHeld => ?_)
          · exact ⟨x0, x1⟩
          refine wpAnyM_take 0 (v := ?_) rfl (by kernel_rfl) (fun _ _ _ h => h) (Or.inl ⟨by rfl, ?_⟩) (by assumption) ?_
          rotate_left
          · (intro wx hSw; (try dsimp only at hSw); go_simp; (try with_reducible rfl))
          (try simp only [Act.put, nA, nB, nC])
          refine wpAnyM_take 1 (v := ?_) rfl (by kernel_rfl) (fun _ _ _ h => h) (Or.inl ⟨by rfl, ?_⟩) (by assumption) ?_
          rotate_left
          · (intro wx hSw; (try dsimp only at hSw); go_simp; (try with_reducible rfl))
          (try simp only [Act.put, nA, nB, nC])
          refine wpAnyM_take 2 (v := ?_) rfl (by kernel_rfl) (fun _ _ _ h => h) (Or.inl ⟨by rfl, ?_⟩) (by assumption) ?_
          rotate_left
          · (intro wx hSw; (try dsimp only at hSw); go_simp; (try with_reducible rfl))
          (try simp only [Act.put, nA, nB, nC])
          refine wpAnyM_take 3 (v := ?_) rfl (by kernel_rfl) (fun _ _ _ h => h) (Or.inl ⟨by rfl, ?_⟩) (by assumption) ?_
          rotate_left
          · (intro wx hSw; (try dsimp only at hSw); go_simp; (try with_reducible rfl))
          (try simp only [Act.put, nA, nB, nC])
          refine wpAnyM_take 4 (v := ?_) rfl (by kernel_rfl) (fun _ _ _ h => h) (Or.inl ⟨by rfl, ?_⟩) (by assumption) ?_
          rotate_left
          · (intro wx hSw; (try dsimp only at hSw); go_simp; (try with_reducible rfl))
          (try simp only [Act.put, nA, nB, nC])
          refine wpAnyM_take 5 (v := ?_) rfl (by kernel_rfl) (fun _ _ _ h => h) (Or.inl ⟨by rfl, ?_⟩) (by assumption) ?_
          rotate_left
          · (intro wx hSw; (try dsimp only at hSw); go_simp; (try with_reducible rfl))
          (try simp only [Act.put, nA, nB, nC])
          refine wpAnyM_take 6 (v := ?_) rfl (by kernel_rfl) (fun _ _ _ h => h) (Or.inl ⟨by rfl, ?_⟩) (by assumption) ?_
          rotate_left
          · (intro wx hSw; (try dsimp only at hSw); go_simp; (try with_reducible rfl))
          (try simp only [Act.put, nA, nB, nC])
          refine wpAnyM_take 7 (v := ?_) rfl (by kernel_rfl) (fun _ _ _ h => h) (Or.inl ⟨by rfl, ?_⟩) (by assumption) ?_
          rotate_left
          · (intro wx hSw; (try dsimp only at hSw); go_simp; (try with_reducible rfl))
          (try simp only [Act.put, nA, nB, nC])
          refine wpAnyM_take 8 (v := ?_) rfl (by kernel_rfl) (fun _ _ _ h => h) (Or.inl ⟨by rfl, ?_⟩) (by assumption) ?_
          rotate_left
          · (intro wx hSw; (try dsimp only at hSw); go_simp; (try with_reducible rfl))
          (try simp only [Act.put, nA, nB, nC])
          refine wpAnyM_take 9 (v := ?_) rfl (by kernel_rfl) (fun _ _ _ h => h) (Or.inl ⟨by rfl, ?_⟩) (by assumption) ?_
          rotate_left
          · (intro wx hSw; (try dsimp only at hSw); go_simp; (try with_reducible rfl))
          (try simp only [Act.put, nA, nB, nC])
          refine wpAnyM_take 10 (v := ?_) rfl (by kernel_rfl) (fun _ _ _ h => h) (Or.inl ⟨by rfl, ?_⟩) (by assumption) ?_
          rotate_left
          · (intro wx hSw; (try dsimp only at hSw); go_simp; (try with_reducible rfl))
          (try simp only [Act.put, nA, nB, nC])
          refine wpAnyM_take 11 (v := ?_) rfl (by kernel_rfl) (fun _ _ _ h => h) (Or.inl ⟨by rfl, ?_⟩) (by assumption) ?_
          rotate_left
          · (intro wx hSw; (try dsimp only at hSw); go_simp; (try with_reducible rfl))
          (try simp only [Act.put, nA, nB, nC])
          refine wpAnyM_take 12 (v := ?_) rfl (by kernel_rfl) (fun _ _ _ h => h) (Or.inl ⟨by rfl, ?_⟩) (by assumption) ?_
          rotate_left
          · (intro wx hSw; (try dsimp only at hSw); go_simp; (try with_reducible rfl))
          (try simp only [Act.put, nA, nB, nC])
          refine wpAnyM_take 13 (v := ?_) rfl (by kernel_rfl) (fun _ _ _ h => h) (Or.inl ⟨by rfl, ?_⟩) (by assumption) ?_
          rotate_left
          · (intro wx hSw; (try dsimp only at hSw); go_simp; (try with_reducible rfl))
          (try simp only [Act.put, nA, nB, nC])
          refine wpAnyM_oneS 14 rfl (by kernel_rfl) (fun K hK => ?_)
          go_simp
          (refine MC.out.mono ?_); rintro e w12 ⟨rfl, hu12⟩; have L12 := Lib.hid (L11.out.upd' hcb (Upd.after (Below.drew (Below.refl _ _)) hu12)); have kp := (show _ ∧ _ from ⟨(L12.out.bB.cell (i := m) (by omega)).trans (by rw [EU.out.2.2.2]), (L12.out.vB.cell (i := j) (by omega)).trans (by rw [EJ.out.2.2.2.2.2.1])⟩); have kc := L12.out.up.cellc HC.out; have kf := (L12.out.up.frozen hcb).trans HF.out; clear hu12
          (try dsimp only)
          (try simp only [Act.put, nA, nB, nC])
          clear hHeld
          refine hK.out _ _ ?_ (fun hHeld => ?_)
          · exact kp
          clear hK K
          (try simp only [Act.put, nA, nB, nC])
          refine wpAnyM_oneS 15 rfl (by kernel_rfl) (fun K hK => ?_)
          go_simp
          (refine (rplus_any c _ BV NV _ kc kf).mono ?_); rintro e w13 ⟨rfl, hw13⟩; have U13 : Upd c (HN || NM || addH BV NV) w12 w13 := (by rw [← hw13, show (HN || NM || addH BV NV) = (HN || NM || satH BV || satH NV || satH (satV BV + satV NV)) from by simp only [addH, Bool.or_assoc]]; exact Upd.set c _ _); have L13 := Lib.hid (L12.out.upd' hcb U13); have kp2 := (show _ ∧ _ from ⟨(L13.out.bB.cell (i := m) (by omega)).trans (by rw [EU.out.2.2.2]), (L13.out.vB.cell (i := j) (by omega)).trans (by rw [EJ.out.2.2.2.2.2.1])⟩); have y1 := L13.out.bB.cell (i := m) (by omega); have y2 := L13.out.bB.free m; clear hw13 U13
          (try dsimp only)
          (try simp only [Act.put, nA, nB, nC])
          clear hHeld
          refine hK.out _ _ ?_ (fun hHeld => ?_)
          · exact kp2
          clear hK K
          (try simp only [Act.put, nA, nB, nC])
          refine wpAnyM_take 16 (v := ?_) rfl (by kernel_rfl) (fun _ _ _ h => h) (Or.inl ⟨by rfl, ?_⟩) (by assumption) ?_
          rotate_left
          · (intro wx hSw; (try dsimp only at hSw); go_simp; (try with_reducible rfl))
          (try simp only [Act.put, nA, nB, nC])
          refine wpAnyM_one 17 rfl (by kernel_rfl) (fun K hK => ?_)
          go_simp
          refine hK.out _ _ (.inl (by kernel_rfl)) (fun _ => ?_)
          clear hK K
          (try simp only [Act.put, nA, nB, nC])
          refine wpAnyM_done (by kernel_rfl) ?_ _
          go_wp2_with fail
          go_roundw
          case rel =>
            refine ⟨m + 1, by omega, by go_num, ?_⟩
            rw [ST.out.1, EHN.out]
            exact Lib.hid ((L13.out.setB m (satV (satV BV + satV NV))).cong (fun _ _ => rfl) (fun x _ => ST.out.2.2 hmj x))
          case measure => simp [intOf]; omega
        · have hmj' : m = j := by omega
          subst hmj'
          have d2 : decide (m < m) = false := by simp
          have CO := Lib.hid (ur_col EJ.out.1 EJ.out.2.1 (by rw [EFA.out.2.2]; exact EJ.out.2.2.1) (by rw [EFA.out.2.2]; exact EJ.out.2.2.2.1) (by rw [EFA.out.1]; exact EJ.out.2.2.2.2.1) EJ.out.2.2.2.2.2.2.1 EJ.out.2.2.2.2.2.2.2 EK.out.2.2.1 EK.out.2.2.2.1 EK.out.2.1 EX.out)
          have x1 := Q.out.pB.cell (i := 276 + m) (by omega)
          have x2 := Q.out.pB.free (276 + m)
          clear hm hmj iw
          go_wp2_with fail
          go_roundw
          case rel =>
            refine ⟨m + 1, by omega, by go_num, ?_⟩
            rw [CO.out.1]
            refine Lib.hid ((Q.out.setP (276 + m) UD).cong (fun x hx => ?_) (fun x hx => ?_))
            · show _ = upOm (upO P S R m) P S R m m x
              rw [← rOm_D (upO P S R m) P S R hlt 0 m (Nat.le_refl _), CO.out.2.1, ← EK.out.1]; rfl
            · rfl
          case measure => simp [intOf]; omega
    · have hj24 : j = 24 := by omega
      subst hj24
      rw [show ((24 : Nat) : Int) = 24 from rfl]
      clear hj hlt
      obtain ⟨HG, hHG⟩ : ∃ x, (HU || orB (upCH P S R) 24) = x := ⟨_, rfl⟩
      obtain ⟨O, hO⟩ : ∃ x, upO P S R 24 = x := ⟨_, rfl⟩
      obtain ⟨B0, hB0⟩ : ∃ x, upB P S 24 = x := ⟨_, rfl⟩
      obtain ⟨SV, hSV⟩ : ∃ x, bkA P S R 24 = x := ⟨_, rfl⟩
      rw [hHG, hO, hB0] at Q
      have hA24 : A 24 = SV := by rw [← EFA.out.2.2]; exact hSV
      have EG := Lib.hid (And.intro hHG (And.intro hO (And.intro hSV hA24)))
      have GG := Lib.hid (ur_gain hB0 hSV)
      clear hHG hO hB0 hSV hA24
      go_wp2_with fail
      go_loopw [20] (fun v wr => ∃ i : Nat, i ≤ 24 ∧ v = .int .i64 i ∧ Hid (UrR c (HG || orB (upGH P S R) i) fb vb ab bb F V A O (fun x => if x < i then upG P S R x else B0 x) w wr)) (fun v _ => 24 - (intOf v).toNat)
      case atStart =>
        refine ⟨0, by omega, rfl, ?_⟩
        rw [show (HG || orB (upGH P S R) 0) = HG from by simp [orB]]
        exact Lib.hid (Q.out.cong (fun _ _ => rfl) (fun x _ => by rw [if_neg (by omega)]))
      case round =>
        obtain ⟨i, hi, rfl, T⟩ := hrel
        clear Q
        by_cases hlt : i < 24
        · have d1 : decide ((i : Int) < 24) = true := by simp; omega
          have k0 : (0 : Int) ≤ (i : Int) := Int.natCast_nonneg _
          have k1 : (i : Int) < 24 := by omega
          have x0 := T.out.bB.cell (i := i) (by omega)
          rw [if_neg (by omega)] at x0
          have x1 := T.out.aB.cell (i := 24) (by omega)
          rw [EG.out.2.2.2] at x1
          obtain ⟨g1, g2⟩ := GG.out i
          obtain ⟨BI, hBI⟩ : ∃ x, B0 i = x := ⟨_, rfl⟩
          rw [hBI] at x0 g1 g2
          have rc := T.out.up.cellc HC.out
          have rf := (T.out.up.frozen hcb).trans HF.out
          have DC := Lib.hid (rd_any c (HG || orB (upGH P S R) i) BI SV wr.drew rc rf)
          obtain ⟨GV, hGV⟩ : ∃ x, divV BI SV 30 = x := ⟨_, rfl⟩
          obtain ⟨GH, hGH⟩ : ∃ x, divH BI SV 30 = x := ⟨_, rfl⟩
          rw [hGV, hGH] at DC
          rw [hGV] at g1
          rw [hGH] at g2
          have E1 := Lib.hid (And.intro g1 g2)
          clear g1 g2 hGV hGH rc rf hBI
          go_upto_region 19 with fail
          refine wp_region_M (fun w' => w'.cell? ⟨bb, i, none⟩ = some (.int .i64 BI) ∧ w'.cell? ⟨ab, 24, none⟩ = some (.int .i64 SV)) 11 (by kernel_rfl) ?_ (fun hHeld => ?_)
          · exact ⟨x0, x1⟩
          refine wpAnyM_take 0 (v := ?_) rfl (by kernel_rfl) (fun _ _ _ h => h) (Or.inl ⟨by rfl, ?_⟩) (by assumption) ?_
          rotate_left
          · (intro wx hSw; (try dsimp only at hSw); go_simp; (try with_reducible rfl))
          (try simp only [Act.put, nA, nB, nC])
          refine wpAnyM_take 1 (v := ?_) rfl (by kernel_rfl) (fun _ _ _ h => h) (Or.inl ⟨by rfl, ?_⟩) (by assumption) ?_
          rotate_left
          · (intro wx hSw; (try dsimp only at hSw); go_simp; (try with_reducible rfl))
          (try simp only [Act.put, nA, nB, nC])
          refine wpAnyM_take 2 (v := ?_) rfl (by kernel_rfl) (fun _ _ _ h => h) (Or.inl ⟨by rfl, ?_⟩) (by assumption) ?_
          rotate_left
          · (intro wx hSw; (try dsimp only at hSw); go_simp; (try with_reducible rfl))
          (try simp only [Act.put, nA, nB, nC])
          refine wpAnyM_take 3 (v := ?_) rfl (by kernel_rfl) (fun _ _ _ h => h) (Or.inl ⟨by rfl, ?_⟩) (by assumption) ?_
          rotate_left
          · (intro wx hSw; (try dsimp only at hSw); go_simp; (try with_reducible rfl))
          (try simp only [Act.put, nA, nB, nC])
          refine wpAnyM_take 4 (v := ?_) rfl (by kernel_rfl) (fun _ _ _ h => h) (Or.inl ⟨by rfl, ?_⟩) (by assumption) ?_
          rotate_left
          · (intro wx hSw; (try dsimp only at hSw); go_simp; (try with_reducible rfl))
          (try simp only [Act.put, nA, nB, nC])
          refine wpAnyM_take 5 (v := ?_) rfl (by kernel_rfl) (fun _ _ _ h => h) (Or.inl ⟨by rfl, ?_⟩) (by assumption) ?_
          rotate_left
          · (intro wx hSw; (try dsimp only at hSw); go_simp; (try with_reducible rfl))
          (try simp only [Act.put, nA, nB, nC])
          refine wpAnyM_take 6 (v := ?_) rfl (by kernel_rfl) (fun _ _ _ h => h) (Or.inl ⟨by rfl, ?_⟩) (by assumption) ?_
          rotate_left
          · (intro wx hSw; (try dsimp only at hSw); go_simp; (try with_reducible rfl))
          (try simp only [Act.put, nA, nB, nC])
          refine wpAnyM_take 7 (v := ?_) rfl (by kernel_rfl) (fun _ _ _ h => h) (Or.inl ⟨by rfl, ?_⟩) (by assumption) ?_
          rotate_left
          · (intro wx hSw; (try dsimp only at hSw); go_simp; (try with_reducible rfl))
          (try simp only [Act.put, nA, nB, nC])
          refine wpAnyM_take 8 (v := ?_) rfl (by kernel_rfl) (fun _ _ _ h => h) (Or.inl ⟨by rfl, ?_⟩) (by assumption) ?_
          rotate_left
          · (intro wx hSw; (try dsimp only at hSw); go_simp; (try with_reducible rfl))
          (try simp only [Act.put, nA, nB, nC])
          refine wpAnyM_oneS 9 rfl (by kernel_rfl) (fun K hK => ?_)
          go_simp
          (refine DC.out.mono ?_); rintro e w4 ⟨rfl, hu4⟩; have U4 := Upd.after (Below.drew (Below.refl wr.heap.size wr)) hu4; have L4 := Lib.hid (T.out.upd' hcb U4); have kp := (show _ ∧ _ from ⟨(U4.cell T.out.bB.lt (fun e => by have := T.out.ord; rw [e] at hcb; simp at hcb; omega)).trans x0, (U4.cell T.out.aB.lt (fun e => by have := T.out.ord; rw [e] at hcb; simp at hcb; omega)).trans x1⟩); have n0 := kp.1; have n1 := L4.out.bB.free i; clear hu4 U4
          (try dsimp only)
          (try simp only [Act.put, nA, nB, nC])
          clear hHeld
          refine hK.out _ _ ?_ (fun hHeld => ?_)
          · exact kp
          clear hK K
          (try simp only [Act.put, nA, nB, nC])
          refine wpAnyM_take 10 (v := ?_) rfl (by kernel_rfl) (fun _ _ _ h => h) (Or.inl ⟨by rfl, ?_⟩) (by assumption) ?_
          rotate_left
          · (intro wx hSw; (try dsimp only at hSw); go_simp; (try with_reducible rfl))
          (try simp only [Act.put, nA, nB, nC])
          refine wpAnyM_one 11 rfl (by kernel_rfl) (fun K hK => ?_)
          go_simp
          refine hK.out _ _ (.inl (by kernel_rfl)) (fun _ => ?_)
          clear hK K
          (try simp only [Act.put, nA, nB, nC])
          refine wpAnyM_done (by kernel_rfl) ?_ _
          go_wp2_with fail
          go_roundw
          case rel =>
            refine ⟨i + 1, by omega, by go_num, ?_⟩
            rw [show (HG || orB (upGH P S R) (i + 1)) = (HG || orB (upGH P S R) i || GH) from by simp only [orB]; rw [E1.out.2, Bool.or_assoc]]
            refine Lib.hid ((L4.out.setB i GV).cong (fun _ _ => rfl) (fun x hx => ?_))
            simp only [Go.Proofs.YtiajjiphknlldaaGreat.upd]
            by_cases h1 : x = i
            · subst h1; rw [if_pos rfl, if_pos (by omega), E1.out.1]
            · rw [if_neg h1]; split <;> split <;> first | rfl | omega
          case measure => simp [intOf]; omega
        · have hi24 : i = 24 := by omega
          subst hi24
          rw [show ((24 : Nat) : Int) = 24 from rfl]
          clear hi hlt
          obtain ⟨BG, hBG⟩ : ∃ x : Nat → Int, (fun x => if x < 24 then upG P S R x else B0 x) = x := ⟨_, rfl⟩
          rw [hBG] at T
          have T0 := T.out.below (Below.drew (Below.refl _ _))
          obtain ⟨HM0, k1⟩ := ur_rows T0
          obtain ⟨HM1, Z1, k2⟩ := k1 _ rfl
          obtain ⟨HM2, HM3, UE⟩ := k2 _ rfl
          have y0 := HM0.2.2.cell (i := 24) (by omega)
          have y1 := HM1.2.2.cell (i := 24) (by omega)
          have y2 := HM2.2.2.cell (i := 24) (by omega)
          rw [EG.out.2.2.2] at y0 y1 y2
          have HM0 := Lib.hid (And.intro HM0.1 (And.intro HM0.2.1 y0))
          have HM1 := Lib.hid (And.intro HM1.1 (And.intro HM1.2.1 y1))
          have HM2 := Lib.hid (And.intro HM2.1 (And.intro HM2.2.1 y2))
          have HM3 := Lib.hid HM3
          have Z0 := Lib.hid T0.z0
          have Z1 := Lib.hid Z1
          have UE := Lib.hid UE
          have EB := Lib.hid hBG
          clear T0 T k1 k2 hBG y0 y1 y2
          go_upto_region 20 with fail
          refine wp_region_M (fun w' => Blk w' w.heap.size 26 300 O ∧ Blk w' bb 22 24 BG ∧ w'.cell? ⟨ab, 24, none⟩ = some (.int .i64 SV)) 6 (by kernel_rfl) ?_ (fun hHeld => ?_)
          · exact HM0.out
          refine wpAnyM_take 0 (v := ?_) rfl (by kernel_rfl) (fun _ _ _ h => h) (Or.inl ⟨by rfl, ?_⟩) (by assumption) ?_
          rotate_left
          · (intro wx hSw; refine Eq.trans (run_load_row 26 (.tmp 5) (by rfl) (w.heap.size) (by rfl) _ _ _ _ (hSw.1) Tryz.underlying26 rfl (icov.trans (by rw [arrv_size]))) ?_; with_reducible rfl)
          (try simp only [Act.put, nA, nB, nC])
          refine wpAnyM_take 1 (v := ?_) rfl (by kernel_rfl) (fun _ _ _ h => h) (Or.inl ⟨by rfl, ?_⟩) (by assumption) ?_
          rotate_left
          · (intro wx hSw; refine Eq.trans (run_load_row 22 (.tmp 14) (by rfl) (bb) (by rfl) _ _ _ _ (hSw.2.1) Tryz.underlying22 rfl (icol.trans (by rw [arrv_size]))) ?_; with_reducible rfl)
          (try simp only [Act.put, nA, nB, nC])
          refine wpAnyM_take 2 (v := ?_) rfl (by kernel_rfl) (fun _ _ _ h => h) (Or.inl ⟨by rfl, ?_⟩) (by assumption) ?_
          rotate_left
          · (intro wx hSw; (try dsimp only at hSw); go_simp; (try with_reducible rfl))
          (try simp only [Act.put, nA, nB, nC])
          refine wpAnyM_take 3 (v := ?_) rfl (by kernel_rfl) (fun _ _ _ h => h) (Or.inl ⟨by rfl, ?_⟩) (by assumption) ?_
          rotate_left
          · (intro wx hSw; obtain ⟨s1, s2, s3⟩ := hSw; go_simp; (try with_reducible rfl))
          (try simp only [Act.put, nA, nB, nC])
          refine wpAnyM_oneS 4 rfl (by kernel_rfl) (fun K hK => ?_)
          go_simp; rw [if_pos (arrv_size _ _), run_storeCells_row _ Z0.out]; go_simp
          clear hHeld
          refine hK.out _ _ ?_ (fun hHeld => ?_)
          · exact HM1.out
          clear hK K
          (try simp only [Act.put, nA, nB, nC])
          refine wpAnyM_oneS 5 rfl (by kernel_rfl) (fun K hK => ?_)
          go_simp; rw [if_pos (arrv_size _ _), run_storeCells_row _ Z1.out]; go_simp
          clear hHeld
          refine hK.out _ _ ?_ (fun hHeld => ?_)
          · exact HM2.out
          clear hK K
          (try simp only [Act.put, nA, nB, nC])
          refine wpAnyM_one 6 rfl (by kernel_rfl) (fun K hK => ?_)
          go_simp
          refine hK.out _ _ (.inl (by kernel_rfl)) (fun _ => ?_)
          clear hK K
          (try simp only [Act.put, nA, nB, nC])
          refine wpAnyM_done (by kernel_rfl) ?_ _
          (try clear hHeld)
          go_wp2_with fail
          refine bodyPost_ret (results_two Tryz.results25 _ _ (w.heap.size + 1 + 1) (w.heap.size + 1 + 1 + 1) 26 22 (arrv 300 O) (arrv 24 BG) (0, 0) (0, 0) _ _ rfl HM3.out.1 Tryz.underlying26 rfl (icov.trans (by rw [arrv_size])) rfl HM3.out.2 Tryz.underlying22 rfl (icol.trans (by rw [arrv_size])) (.int .i64 SV) rfl) rfl ⟨?_, ?_⟩
          · have r1 : arrv 24 (updG p H r) = arrv 24 BG := arrv_congr fun x hx => by rw [← EB.out, updG, EPR.out.1, EPR.out.2.1, EPR.out.2.2]; show _ = (if x < 24 then upG P S R x else B0 x); rw [if_pos hx]
            have r2 : updP p H r = O := by rw [updP, EPR.out.1, EPR.out.2.1, EPR.out.2.2]; exact EG.out.2.1
            have r3 : updS p H r = SV := by rw [updS, EPR.out.1, EPR.out.2.1, EPR.out.2.2]; exact EG.out.2.2.1
            rw [r1, r2, r3]
          · have e : (h || updH p H r) = (HG || orB (upGH P S R) 24) := by
              rw [updH, EPR.out.1, EPR.out.2.1, EPR.out.2.2, ← EG.out.1, ← EHU.out]
              simp only [Bool.or_assoc]
            rw [e]
            exact UE.out
end Go.Proofs.YtiajjiphknlldaaGreat
/- Contract of the reference's root: bit by bit. -/
namespace Go.Proofs.YtiajjiphknlldaaGreat
open Go.RowKit
open Go (bits)
set_option maxRecDepth 100000
/-- The reference's root behind n of 64 bits. -/
def rfR (A : Nat) : Nat → Nat | 0 => 0 | n + 1 => if (rfR A n + 2 ^ (63 - n)) * (rfR A n + 2 ^ (63 - n)) ≤ A then rfR A n + 2 ^ (63 - n) else rfR A n
theorem rfR_inv (A : Nat) (hA : A < 2 ^ 128) : ∀ n, n ≤ 64 → (∃ q, rfR A n = q * 2 ^ (64 - n)) ∧ rfR A n * rfR A n ≤ A ∧ A < (rfR A n + 2 ^ (64 - n)) * (rfR A n + 2 ^ (64 - n))
  | 0, _ => ⟨⟨0, by simp [rfR]⟩, by simp [rfR], by simp only [rfR, Nat.zero_add, Nat.sub_zero]; rw [← Nat.pow_add]; exact hA⟩
  | n + 1, hn => by
    obtain ⟨⟨q, hq⟩, h1, h2⟩ := rfR_inv A hA n (by omega)
    have e : 64 - n = (63 - n) + 1 := by omega
    rw [e, Nat.pow_succ] at hq h2
    rw [show 64 - (n + 1) = 63 - n by omega]
    simp only [rfR]
    generalize 2 ^ (63 - n) = p at *
    by_cases h : (rfR A n + p) * (rfR A n + p) ≤ A
    · rw [if_pos h]
      refine ⟨⟨2 * q + 1, by rw [hq]; grind⟩, h, ?_⟩
      rw [show rfR A n + p + p = rfR A n + p * 2 by omega]; exact h2
    · rw [if_neg h]
      exact ⟨⟨2 * q, by rw [hq]; grind⟩, h1, by omega⟩
theorem sq_lt_of {a b A : Nat} (h1 : a * a ≤ A) (h2 : A < (b + 1) * (b + 1)) : a ≤ b := by
  rcases Nat.lt_or_ge b a with h | h
  · have : (b + 1) * (b + 1) ≤ a * a := Nat.mul_le_mul h h
    omega
  · exact h
theorem rfR_root (A : Nat) (hA : A < 2 ^ 126) : rootV A = (if rfR A 64 < A - rfR A 64 * rfR A 64 then rfR A 64 + 1 else rfR A 64) ∧ rfR A 64 * rfR A 64 ≤ A ∧ A - rfR A 64 * rfR A 64 ≤ 2 * rfR A 64 ∧ rfR A 64 < 9223372036854775808 := by
  have hA8 : A < 2 ^ 128 := Nat.lt_trans hA (by decide)
  obtain ⟨_, h1, h2⟩ := rfR_inv A hA8 64 (by decide)
  obtain ⟨R, g1, g2, g3⟩ := rootS_inv A hA8 64 (by decide)
  simp only [show 64 - 64 = 0 from rfl, Nat.pow_zero, Nat.mul_one] at h2 g1 g3
  have e : rfR A 64 = R := Nat.le_antisymm (sq_lt_of h1 g3) (sq_lt_of (by omega) h2)
  have ex : (R + 1) * (R + 1) = R * R + 2 * R + 1 := by grind
  rw [e] at h1 h2 ⊢
  refine ⟨?_, h1, by omega, ?_⟩
  · unfold rootV
    rw [g1, show (rootS A 64).1 = A - R * R by omega]
  · rcases Nat.lt_or_ge R 9223372036854775808 with h | h
    · exact h
    · have h4 : 9223372036854775808 * 9223372036854775808 ≤ R * R := Nat.mul_le_mul h h
      have h5 : (2 : Nat) ^ 126 = 85070591730234615865843651857942052864 := by decide
      omega
theorem rfR_64 (A : Nat) (hA : A < 2 ^ 126) (n : Nat) (hn : n < 64) : rfR A n + 2 ^ (63 - n) < 18446744073709551616 := by
  obtain ⟨⟨q, hq⟩, h1, h2⟩ := rfR_inv A (Nat.lt_trans hA (by decide)) n (by omega)
  have hp : 2 ^ (63 - n) ≤ 2 ^ 63 := Nat.pow_le_pow_right (by decide) (by omega)
  have h6 : (2 : Nat) ^ 63 = 9223372036854775808 := by decide
  rcases Nat.lt_or_ge (rfR A n) 9223372036854775808 with h | h
  · omega
  · have h4 : 9223372036854775808 * 9223372036854775808 ≤ rfR A n * rfR A n := Nat.mul_le_mul h h
    have h5 : (2 : Nat) ^ 126 = 85070591730234615865843651857942052864 := by decide
    omega
theorem rfR_or (A : Nat) (hA : A < 2 ^ 126) (n : Nat) (hn : n < 64) : bits .or .u64 ((rfR A n : Nat) : Int) (2 ^ (63 - n)) = ((rfR A n + 2 ^ (63 - n) : Nat) : Int) := by
  obtain ⟨⟨q, hq⟩, h1, h2⟩ := rfR_inv A (Nat.lt_trans hA (by decide)) n (by omega)
  have hb := rfR_64 A hA n hn
  rw [show 64 - n = (63 - n) + 1 by omega] at hq
  obtain ⟨s, hs⟩ : ∃ s, 63 - n = s := ⟨_, rfl⟩
  rw [hs] at hq hb ⊢
  have hlt : q * 2 ^ (s + 1) < 18446744073709551616 := by rw [← hq]; exact Nat.lt_of_le_of_lt (Nat.le_add_right _ _) hb
  have h := (or_lo q s (Nat.lt_trans hlt (by decide)) (by omega)).1
  have e1 : lo64 ((q * 2 ^ (s + 1) : Nat) : Int) = ((q * 2 ^ (s + 1) : Nat) : Int) := by
    generalize q * 2 ^ (s + 1) = X at *
    unfold lo64; omega
  have e2 : (2 * q + 1) * 2 ^ s = q * 2 ^ (s + 1) + 2 ^ s := by rw [Nat.pow_succ]; grind
  rw [hq]
  rw [e1, e2] at h
  rw [h]
  rw [hq] at hb
  generalize q * 2 ^ (s + 1) + 2 ^ s = Y at *
  unfold lo64; omega
structure RrR (A : Nat) (w wr : World) : Prop where
  below : Below w.heap.size w wr
  a : Wid wr w.heap.size A false
  z : Wid wr (w.heap.size + 1) 0 false
set_option maxHeartbeats 8000000 in
theorem rroot_any (A : Nat) (w : World) (hA : A < 2 ^ 126) :
    Calls Tryz.prog 97 #[.agg #[.int .u64 (hi64 (A : Int)), .int .u64 (lo64 (A : Int)), .bool false]] w fun e w' =>
      e = .returned (.agg #[.int .u64 (hi64 (rootV A : Nat)), .int .u64 (lo64 (rootV A : Nat)), .bool false]) ∧ Below w.heap.size w w' := by
  have HA := Lib.hid hA
  clear hA
  have R0 : Hid (RrR A w ((w.alloc (.cells #[.int .u64 (hi64 (A : Int)), .int .u64 (lo64 (A : Int)), .bool false] 137)).alloc (.cells #[.int .u64 0, .int .u64 0, .bool false] 137))) := by
    refine Lib.hid ⟨by (repeat (first | with_reducible exact Below.refl _ _ | with_reducible apply Below.drew | (with_reducible refine below_drewN ?_ _) | (with_reducible refine Below.alloc ?_ (by (try simp) <;> omega) _) | (with_reducible refine Below.setCell ?_ (by (try simp) <;> omega) _))), (Wid.new w (A : Int) false).alloc _, ?_⟩
    have h := Wid.new (w.alloc (.cells #[.int .u64 (hi64 (A : Int)), .int .u64 (lo64 (A : Int)), .bool false] 137)) 0 false
    rw [show hi64 0 = 0 by decide, show lo64 0 = 0 by decide] at h
    simpa using h
  go_enter Tryz.func97, Tryz.ntmps97
  go_upto_region 1 with fail
  generalize (w.alloc (.cells #[.int .u64 (hi64 (A : Int)), .int .u64 (lo64 (A : Int)), .bool false] 137)).alloc (.cells #[.int .u64 0, .int .u64 0, .bool false] 137) = W0 at *
  go_wp2_with fail
  go_loopw [3, 4] (fun v3 v4 wr => ∃ (k : Nat) (i : Int), k ≤ 64 ∧ i = 63 - (k : Int) ∧ v4 = .int .i64 i ∧ v3 = .int .u64 ((rfR A k : Nat) : Int) ∧ Hid (RrR A w wr)) (fun _ v _ => (intOf v + 1).toNat)
  case atStart => exact ⟨0, 63, by omega, by omega, rfl, rfl, R0⟩
  case round =>
    obtain ⟨k, i, hk, hi, rfl, rfl, R⟩ := hrel
    clear R0
    obtain ⟨bw, ba, zb⟩ := R.out
    obtain ⟨⟨c0, c1, c2⟩, _⟩ := ba.c
    have HR := Lib.hid R.out
    clear R
    by_cases hlt : k < 64
    · obtain ⟨s, hs⟩ : ∃ s, 63 - k = s := ⟨_, rfl⟩
      obtain rfl : i = (s : Int) := by omega
      have s64 : s < 64 := by omega
      have g1 : decide (0 ≤ (s : Int)) = true := by simp
      have f2 : IntKind.u64.wrap (s : Int) = (s : Int) := by rw [IntKind.wrap_u64]; omega
      have f5 := pow_wrap s s64
      have f6 : min s 64 = s := by omega
      have fo := rfR_or A HA.out k hlt
      have fb := rfR_64 A HA.out k hlt
      have fs : rfR A (k + 1) = if (rfR A k + 2 ^ s) * (rfR A k + 2 ^ s) ≤ A then rfR A k + 2 ^ s else rfR A k := by simp only [rfR]; rw [hs]
      rw [hs] at fo fb
      obtain ⟨X, hX⟩ : ∃ X, rfR A k + 2 ^ s = X := ⟨_, rfl⟩
      rw [hX] at fo fb fs
      have HK := Lib.hid (And.intro hk hs)
      have FS := Lib.hid fs
      have FB := Lib.hid fb
      clear hX fs hk hi
      obtain ⟨r, hr⟩ : ∃ r, rfR A k = r := ⟨_, rfl⟩
      rw [hr] at fo ⊢
      have HRR := Lib.hid hr
      clear hr
      by_cases hx : X * X ≤ A
      · have e : ¬ ((A : Int) < (X : Int) * (X : Int)) := by rw [← Int.natCast_mul]; omega
        have dl : decide ((A : Int) < (X : Int) * (X : Int)) = false := by simpa using e
        clear e fb
        go_wp2_with (first | (go_at_call 98; (refine (rproduct_any (X : Int) (X : Int) _ (by omega) (by have := FB.out; omega) (by omega) (by have := FB.out; omega)).mono ?_); rintro e w1 ⟨rfl, rfl⟩) | (go_at_call 101; (refine (rless_any (A : Int) ((X : Int) * (X : Int)) false false _).mono ?_); rintro e w2 ⟨rfl, hb2⟩; (rw [dl]); have R2 : Hid (RrR A w w2) := Lib.hid ⟨Below.after HR.out.below hb2, HR.out.a.below hb2, HR.out.z.below hb2⟩; clear hb2))
        go_roundw
        case rel =>
          refine ⟨k + 1, (s : Int) - 1, by have := HK.out; omega, by have := HK.out; omega, by go_num, ?_, R2⟩
          rw [FS.out, if_pos hx]
        case measure => simp [intOf]
      · have e : ((A : Int) < (X : Int) * (X : Int)) := by rw [← Int.natCast_mul]; omega
        have dl : decide ((A : Int) < (X : Int) * (X : Int)) = true := by simpa using e
        clear e fb
        go_wp2_with (first | (go_at_call 98; (refine (rproduct_any (X : Int) (X : Int) _ (by omega) (by have := FB.out; omega) (by omega) (by have := FB.out; omega)).mono ?_); rintro e w1 ⟨rfl, rfl⟩) | (go_at_call 101; (refine (rless_any (A : Int) ((X : Int) * (X : Int)) false false _).mono ?_); rintro e w2 ⟨rfl, hb2⟩; (rw [dl]); have R2 : Hid (RrR A w w2) := Lib.hid ⟨Below.after HR.out.below hb2, HR.out.a.below hb2, HR.out.z.below hb2⟩; clear hb2))
        go_roundw
        case rel =>
          refine ⟨k + 1, (s : Int) - 1, by have := HK.out; omega, by have := HK.out; omega, by go_num, ?_, R2⟩
          rw [FS.out, if_neg hx, HRR.out]
        case measure => simp [intOf]
    · obtain rfl : k = 64 := by omega
      obtain rfl : i = -1 := by omega
      obtain ⟨y1, y2, y3, y4⟩ := rfR_root A HA.out
      obtain ⟨r, hr⟩ : ∃ r, rfR A 64 = r := ⟨_, rfl⟩
      rw [hr] at y1 y2 y3 y4 ⊢
      have Y1 := Lib.hid y1
      clear hr hlt hk hi y1
      obtain ⟨S, hS⟩ : ∃ S, r * r = S := ⟨_, rfl⟩
      obtain ⟨D, hD⟩ : ∃ D, A - S = D := ⟨_, rfl⟩
      rw [hS] at y2 y3 Y1
      rw [hD] at y3 Y1
      have hA126 : A < 85070591730234615865843651857942052864 := HA.out
      have em : adM false true A S = D := by unfold adM; rw [if_neg (by decide), if_neg (by omega)]; exact hD
      have es : adS false true A S = false := by unfold adS; rw [if_neg (by decide), if_neg (by omega)]
      have er : (r : Int) * (r : Int) = (S : Int) := by rw [← Int.natCast_mul, hS]
      have AD := Lib.hid (fun w => radd_any A S false true w (by omega))
      rw [em, es] at AD
      have ed1 : hi64 (D : Int) = 0 := by unfold hi64; omega
      have ed2 : lo64 (D : Int) = (D : Int) := by unfold lo64; omega
      rw [ed1, ed2] at AD
      have PR := Lib.hid (fun w => rproduct_any (r : Int) (r : Int) w (by omega) (by omega) (by omega) (by omega))
      rw [er] at PR
      have y5 : (r : Int) < 9223372036854775808 := by omega
      have y6 : (0 : Int) ≤ (r : Int) := Int.natCast_nonneg _
      clear hS hD em es er ed1 ed2 hA126 y2 y3 y4
      have g0 : decide ((0 : Int) < 0) = false := by decide
      by_cases hd : r < D
      · have g1 : decide (r < D) = true := by simpa using hd
        have g2 : decide ((r : Int) < (D : Int)) = true := by simp; omega
        have g3 : ((r : Int) + 1 == 0) = false := by simp; omega
        rw [if_pos hd] at Y1
        go_wp2_with (first | (go_at_call 98; (refine (PR.out _).mono ?_); rintro e w1 ⟨rfl, rfl⟩) | (go_at_call 96; (refine (AD.out _).mono ?_); rintro e w2 ⟨rfl, hb2⟩; have R2 := Lib.hid (Below.after HR.out.below hb2); have z2 := (HR.out.z.below hb2).c.2; have hz2 : w.heap.size + 1 < w2.heap.size := (HR.out.z.below hb2).lt; have z3 := (HR.out.z.below hb2).c.1; clear hb2))
        refine bodyPost_ret (v := .agg #[.int .u64 0, .int .u64 ((r : Int) + 1), .bool false]) (by simp [results, Tryz.results97, go_sem, *]) rfl ⟨?_, ?_⟩
        · rw [Y1.out, show hi64 (((r + 1 : Nat) : Int)) = 0 by unfold hi64; omega, show lo64 (((r + 1 : Nat) : Int)) = (r : Int) + 1 by unfold lo64; omega]
        · have bw := R2.out
          (repeat (first | exact bw | (refine Below.alloc ?_ (by (try simp); have := bw.size; omega) _) | (refine Below.setCell ?_ (by (try simp) <;> omega) _)))
      · have g1 : decide (r < D) = false := by simpa using hd
        have g2 : decide ((r : Int) < (D : Int)) = false := by simp; omega
        have g3 : ((r : Int) == 0) = decide (r = 0) := by rw [Bool.eq_iff_iff]; simp
        rw [if_neg hd] at Y1
        go_wp2_with (first | (go_at_call 98; (refine (PR.out _).mono ?_); rintro e w1 ⟨rfl, rfl⟩) | (go_at_call 96; (refine (AD.out _).mono ?_); rintro e w2 ⟨rfl, hb2⟩; have R2 := Lib.hid (Below.after HR.out.below hb2); have z2 := (HR.out.z.below hb2).c.2; have hz2 : w.heap.size + 1 < w2.heap.size := (HR.out.z.below hb2).lt; have z3 := (HR.out.z.below hb2).c.1; clear hb2))
        refine bodyPost_ret (v := .agg #[.int .u64 0, .int .u64 (r : Int), .bool false]) (by simp [results, Tryz.results97, go_sem, *]) rfl ⟨?_, ?_⟩
        · rw [Y1.out, show hi64 (((r : Nat) : Int)) = 0 by unfold hi64; omega, show lo64 (((r : Nat) : Int)) = (r : Int) by unfold lo64; omega]
        · have bw := R2.out
          (repeat (first | exact bw | (refine Below.alloc ?_ (by (try simp); have := bw.size; omega) _) | (refine Below.setCell ?_ (by (try simp) <;> omega) _)))
end Go.Proofs.YtiajjiphknlldaaGreat
/- Contract of the reference's Hypot. -/
namespace Go.Proofs.YtiajjiphknlldaaGreat
open Go.RowKit
set_option maxRecDepth 100000
structure RHyR (c : Addr) (h : Bool) (A : Nat → Int) (w : World) (k : Nat) (M : Nat) (wr : World) : Prop where
  upd : Upd c (h || orB (fun i => satH (A i)) k) w wr
  s : Wid wr w.heap.size M false
  e : (M : Int) = dotS A A k
  b : M ≤ k * 1329227995784915872903807060280344576
theorem sg2_self (x : Int) : sg2 x x = false := by unfold sg2; simp
theorem adM_ff (M N : Nat) : adM false false M N = M + N := by unfold adM; rw [if_pos (by decide)]
theorem adS_ff (M N : Nat) : adS false false M N = false := by unfold adS; rw [if_pos (by decide)]
set_option maxHeartbeats 4000000 in
theorem rhypot_any (c : Addr) (h : Bool) (A : Nat → Int) (pa oa ca n : Nat) (w : World) (hc : w.cell? c = some (.bool h)) (hf : w.frozen? c = false) (hn : n ≤ 32)
    (hA : ∀ i, i < n → w.cell? ⟨pa, oa + i, none⟩ = some (.int .i64 (A i))) :
    Calls Tryz.prog 78 #[.pointer (some c), .slice (some ⟨pa, oa, none⟩) n ca] w fun e w' =>
      e = .returned (.int .i64 (hypV A n)) ∧ Upd c (h || hypH A n) w w' := by
  have hcb := World.block_lt_of_cell? w c hc
  have HA := Lib.hid hA
  have HC := Lib.hid hc
  have HF := Lib.hid hf
  have R0 : Hid (RHyR c h A w 0 0 (w.alloc (.cells #[.int .u64 0, .int .u64 0, .bool false] 137))) := by
    refine Lib.hid ⟨?_, ?_, by simp [dotS], by omega⟩
    · rw [show (h || orB (fun i => satH (A i)) 0) = h from by simp [orB]]
      exact Upd.then (Upd.refl hc) (by (repeat (first | with_reducible exact Below.refl _ _ | with_reducible apply Below.drew | (with_reducible refine below_drewN ?_ _) | (with_reducible refine Below.alloc ?_ (by (try simp) <;> omega) _) | (with_reducible refine Below.setCell ?_ (by (try simp) <;> omega) _))))
    · have := Wid.new w 0 false
      rw [show hi64 0 = 0 by decide, show lo64 0 = 0 by decide] at this
      exact this
  clear hA hc hf
  go_enter Tryz.func78, Tryz.ntmps78
  go_upto_region 2 with fail
  generalize w.alloc (.cells #[.int .u64 0, .int .u64 0, .bool false] 137) = W0 at *
  go_wp2_with fail
  go_loopw [6] (fun i wr => ∃ (k M : Nat), k ≤ n ∧ i = .int .i64 k ∧ Hid (RHyR c h A w k M wr)) (fun i _ => n - (intOf i).toNat)
  case atStart => exact ⟨0, 0, Nat.zero_le _, rfl, R0⟩
  case round =>
    obtain ⟨k, M, hk, rfl, R⟩ := hrel
    clear R0
    by_cases hlt : k < n
    · have q1 : decide (k < n) = true := by simpa using hlt
      have q2 : decide ((k : Int) < 64) = true := by simp; omega
      have a0 := HA.out k hlt
      have u := R.out.upd
      have ra : wr.cell? ⟨pa, oa + k, none⟩ = some (.int .i64 (A k)) := (u.cell (World.block_lt_of_cell? w _ a0) (ne_of_cells HC.out a0)).trans a0
      have rc : wr.cell? c = some (.bool (h || orB (fun i => satH (A i)) k)) := u.cellc HC.out
      have rf : wr.frozen? c = false := (u.frozen hcb).trans HF.out
      have hs := R.out.s
      have nS : w.heap.size ≠ c.block := by omega
      obtain ⟨P, hP⟩ : ∃ P, (satV (A k)).natAbs * (satV (A k)).natAbs = P := ⟨_, rfl⟩
      have hPb : P ≤ 1329227995784915872903807060280344576 := by rw [← hP]; exact abs_prod_bd _ _
      have hMb : M ≤ 42535295865117307932921825928971026432 := Nat.le_trans R.out.b (Nat.le_trans (Nat.mul_le_mul_right _ (by omega : k ≤ 32)) (by decide))
      have MU := Lib.hid (fun w => rmul_any (satV (A k)) (satV (A k)) (P : Int) w (satV_bd _).1 (satV_bd _).2 (satV_bd _).1 (satV_bd _).2 (by rw [← hP]; simp))
      rw [sg2_self] at MU
      have AD := Lib.hid (fun w => radd_any M P false false w (by omega))
      rw [adM_ff, adS_ff] at AD
      have HE := Lib.hid (show ((M + P : Nat) : Int) = dotS A A (k + 1) ∧ M + P ≤ (k + 1) * 1329227995784915872903807060280344576 by
        refine ⟨?_, ?_⟩
        · have e2 : ((P : Nat) : Int) = satV (A k) * satV (A k) := by rw [← hP]; exact Int.natAbs_mul_self
          simp only [dotS]
          rw [Int.natCast_add, R.out.e, e2]
        · have := R.out.b; omega)
      obtain ⟨N, hN⟩ : ∃ N, M + P = N := ⟨_, rfl⟩
      rw [hN] at AD HE
      obtain ⟨x, hx⟩ : ∃ x, satV (A k) = x := ⟨_, rfl⟩
      rw [hx] at MU
      obtain ⟨H1, hH1⟩ : ∃ y, (h || orB (fun i => satH (A i)) k) = y := ⟨_, rfl⟩
      obtain ⟨H2, hH2⟩ : ∃ y, (H1 || satH (A k)) = y := ⟨_, rfl⟩
      rw [hH1] at rc u
      have SA := Lib.hid (rsat_any c H1 (A k) wr rc rf)
      rw [hx, hH2] at SA
      have EK := Lib.hid (And.intro hH1 hH2)
      have U2 := Lib.hid (u.trans (Upd.set c H2 wr))
      have S2 : Hid (Wid (wr.setCell c (.bool H2)) w.heap.size M false) := Lib.hid (hs.other nS _)
      clear u hs hP hPb hMb hN a0 rc rf R hx hH1 hH2
      go_upto_region 6 with (go_at_call 22; (refine SA.out.mono ?_); rintro e w1 ⟨rfl, rfl⟩)
      generalize wr.setCell c (.bool H2) = W2 at *
      clear SA
      obtain ⟨⟨s0, s1, s2⟩, _⟩ := S2.out.c
      refine wp_region_M (fun w' => w'.cell? ⟨w.heap.size, 0, none⟩ = some (.int .u64 (hi64 (M : Int))) ∧ w'.cell? ⟨w.heap.size, 1, none⟩ = some (.int .u64 (lo64 (M : Int))) ∧ w'.cell? ⟨w.heap.size, 2, none⟩ = some (.bool false)) 5 (by kernel_rfl) ?_ (fun hHeld => ?_)
      · exact ⟨s0, s1, s2⟩
      refine wpAnyM_take 0 (v := ?_) rfl (by kernel_rfl) (fun _ _ _ h => h) (Or.inl ⟨by rfl, ?_⟩) (by assumption) ?_
      rotate_left
      · (intro wx hSw; obtain ⟨h0, h1, h2⟩ := hSw; go_simp; (try with_reducible rfl))
      (try simp only [Act.put, nA, nB, nC])
      refine wpAnyM_take 1 (v := ?_) rfl (by kernel_rfl) (fun _ _ _ h => h) (Or.inl ⟨by rfl, ?_⟩) (by assumption) ?_
      rotate_left
      · (intro wx hSw; (try dsimp only at hSw); go_simp; (try with_reducible rfl))
      (try simp only [Act.put, nA, nB, nC])
      refine wpAnyM_take 2 (v := ?_) rfl (by kernel_rfl) (fun _ _ _ h => h) (Or.inl ⟨by rfl, ?_⟩) (by assumption) ?_
      rotate_left
      · (intro wx hSw; (try dsimp only at hSw); go_simp; (try with_reducible rfl))
      (try simp only [Act.put, nA, nB, nC])
      refine wpAnyM_oneS 3 rfl (by kernel_rfl) (fun K hK => ?_)
      go_simp
      (refine (MU.out _).mono ?_); rintro e w3 ⟨rfl, hb3⟩; have U3 := Lib.hid (U2.out.drew.then hb3); have S3 := Lib.hid (Wid.below (w := W2.drew) S2.out hb3); clear hb3
      (try dsimp only)
      (try simp only [Act.put, nA, nB, nC])
      clear hHeld
      refine hK.out _ _ ?_ (fun hHeld => ?_)
      · exact S3.out.c.1
      clear hK K
      (try simp only [Act.put, nA, nB, nC])
      refine wpAnyM_oneS 4 rfl (by kernel_rfl) (fun K hK => ?_)
      go_simp
      (refine (AD.out _).mono ?_); rintro e w4 ⟨rfl, hb4⟩; have U4 := Lib.hid (U3.out.then hb4); have S4 := Lib.hid (S3.out.below hb4); obtain ⟨_, y0, y1, y2⟩ := S4.out.c; obtain ⟨x0, x1, x2⟩ := S4.out.c.1; clear hb4
      (try dsimp only)
      (try simp only [Act.put, nA, nB, nC])
      clear hHeld
      refine hK.out _ _ ?_ (fun hHeld => ?_)
      · exact S4.out.c.1
      clear hK K
      (try simp only [Act.put, nA, nB, nC])
      refine wpAnyM_one 5 rfl (by kernel_rfl) (fun K hK => ?_)
      go_simp
      refine hK.out _ _ (.inl (by kernel_rfl)) (fun _ => ?_)
      clear hK K
      (try simp only [Act.put, nA, nB, nC])
      refine wpAnyM_done (by kernel_rfl) ?_ _
      (try clear hHeld)
      have S5 := Lib.hid (S4.out.set (N : Int) false)
      go_wp2_with fail
      go_roundw
      case rel =>
        refine ⟨k + 1, N, by omega, by go_num, Lib.hid ⟨?_, S5.out, HE.out.1, HE.out.2⟩⟩
        rw [show (h || orB (fun i => satH (A i)) (k + 1)) = H2 from by rw [← EK.out.2, ← EK.out.1]; simp [orB, Bool.or_assoc]]
        exact ((U4.out.setCell (Nat.le_refl _) _).setCell (Nat.le_refl _) _).setCell (Nat.le_refl _) _
      case measure => simp [intOf]; omega
    · have hkn : k = n := by omega
      subst hkn
      have q1 : decide (k < k) = false := by simp
      have u := R.out.upd
      have hMb : M ≤ 42535295865117307932921825928971026432 := Nat.le_trans R.out.b (Nat.le_trans (Nat.mul_le_mul_right _ (by omega : k ≤ 32)) (by decide))
      obtain ⟨H1, hH1⟩ : ∃ y, (h || orB (fun i => satH (A i)) k) = y := ⟨_, rfl⟩
      rw [hH1] at u
      have rc : wr.cell? c = some (.bool H1) := u.cellc HC.out
      have rf : wr.frozen? c = false := (u.frozen hcb).trans HF.out
      obtain ⟨⟨s0, s1, s2⟩, _⟩ := R.out.s.c
      have RT := Lib.hid (fun w => rroot_any M w (by omega))
      have ER := Lib.hid (show hypV A k = satV ((rootV M : Nat) : Int) ∧ (h || hypH A k) = (H1 || satH ((rootV M : Nat) : Int)) by
        unfold hypV hypH
        rw [← R.out.e, Int.toNat_natCast, ← hH1, Bool.or_assoc]
        exact ⟨rfl, rfl⟩)
      have HU := Lib.hid u
      have hwr := HU.out.size
      obtain ⟨V, hV⟩ : ∃ V, rootV M = V := ⟨_, rfl⟩
      rw [hV] at RT ER
      clear u hMb hV hH1 R
      go_wp2_with fail
      refine (RT.out _).mono ?_; rintro e w5 ⟨rfl, hb5⟩
      go_wp2_with fail
      refine (rend2_any c H1 V false _ ((hb5.cell (by omega)).trans rc) ((hb5.frozen (by omega)).trans rf)).mono ?_; rintro e w6 ⟨rfl, hu6⟩
      go_wp2_with fail
      go_ret
      rw [ER.out.1, ER.out.2]
      exact ⟨rfl, (HU.out.then hb5).trans hu6⟩
end Go.Proofs.YtiajjiphknlldaaGreat
