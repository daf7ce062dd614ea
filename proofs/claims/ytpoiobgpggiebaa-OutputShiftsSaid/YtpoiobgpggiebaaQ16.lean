/- Contracts of the program's functions and plain laws, part 16: they hold for all arguments. -/
import Derived.Test.YtpoiobgpggiebaaQ15
/- Contract of strap.Step. -/
namespace Go.Proofs.Ytpoiobgpggiebaa
open Go.RowKit
set_option maxRecDepth 100000
theorem ts_sl3 {c : Addr} {h : Bool} {S I : Nat → Int} {E : List Ex} {top : Nat} {w wr : World} (s : TsR c h S I E top w wr) (L : Nat → Nat → Int) (d : Nat) (e : wr.heap.size = d) :
    TsR c h S I E top w (wr.alloc (.cells (arrv 9 (sideV L)) 43)) ∧ VLs (wr.alloc (.cells (arrv 9 (sideV L)) 43)) d 0 3 L := by
  subst e; exact ⟨s.alloc _, vls_of (Blk.new wr _ 9 _)⟩
theorem ts_sl2 {c : Addr} {h : Bool} {S I : Nat → Int} {E : List Ex} {top : Nat} {w wr : World} (s : TsR c h S I E top w wr) (L : Nat → Nat → Int) (d : Nat) (e : wr.heap.size = d) :
    TsR c h S I E top w (wr.alloc (.cells (arrv 6 (sideV L)) 43)) ∧ VLs (wr.alloc (.cells (arrv 6 (sideV L)) 43)) d 0 2 L := by
  subst e; exact ⟨s.alloc _, vls_of (Blk.new wr _ 6 _)⟩
theorem slc_blk {w : World} {b T n : Nat} {F : Nat → Int} (h : Blk w b T n F) : Slc w (some ⟨b, 0, none⟩) n F := fun i hi => ⟨b, 0, rfl, by rw [Nat.zero_add]; exact h.cell hi⟩
set_option maxHeartbeats 32000000 in
theorem step_any2 (c : Addr) (h : Bool) (S I : Nat → Int) (w : World) (hc : w.cell? c = some (.bool h)) (hf : w.frozen? c = false) :
    Calls Try.prog 26 #[.pointer (some c), .agg (arrv 24 S), .agg (arrv 8 I)] w fun e w' => e = .returned (.agg (arrv 24 (stepN S I))) ∧ Upd c (h || stepH2 S I) w w' := by
  have S0 := Lib.hid (ts_start c h S I w hc hf)
  obtain ⟨KS, hKS⟩ : ∃ x, keepF S = x := ⟨_, rfl⟩
  have SC := fun (x : World) (k : x.cell? c = some (.bool h)) (f : x.frozen? c = false) => split_any c h S I x k f
  rw [hKS] at SC
  obtain ⟨PP, hPP⟩ : ∃ x, spF KS I = x := ⟨_, rfl⟩
  obtain ⟨H1, hH1⟩ : ∃ x, (h || keepH S || spH KS I) = x := ⟨_, rfl⟩
  rw [hPP, hH1] at SC
  have SC := Lib.hid SC
  have KC := fun (x : World) (k : x.cell? c = some (.bool H1)) (f : x.frozen? c = false) => keep_any c H1 S x k f
  obtain ⟨H2, hH2⟩ : ∃ x, (H1 || keepH S) = x := ⟨_, rfl⟩
  rw [hKS, hH2] at KC
  have KC := Lib.hid KC
  have QC := fun (x : World) (k : x.cell? c = some (.bool H2)) (f : x.frozen? c = false) => qmul_any c H2 KS (fun i => PP (7 + i)) x k f
  obtain ⟨QM, hQM⟩ : ∃ x, qmV KS (fun i => PP (7 + i)) = x := ⟨_, rfl⟩
  obtain ⟨H3, hH3⟩ : ∃ x, (H2 || qmH KS (fun i => PP (7 + i))) = x := ⟨_, rfl⟩
  rw [hQM, hH3] at QC
  have QC := Lib.hid QC
  have UC := fun (x : World) (k : x.cell? c = some (.bool H3)) (f : x.frozen? c = false) => qunit_any c H3 QM x k f
  obtain ⟨QU, hQU⟩ : ∃ x, uniV QM = x := ⟨_, rfl⟩
  obtain ⟨H4, hH4⟩ : ∃ x, (H3 || uniH QM) = x := ⟨_, rfl⟩
  rw [hQU, hH4] at UC
  have UC := Lib.hid UC
  have AC := fun (x : World) (k : x.cell? c = some (.bool H4)) (f : x.frozen? c = false) => apply_any c H4 (fun i => PP (11 + i)) (fun i => PP (4 + i)) x k f
  obtain ⟨AV, hAV⟩ : ∃ x, apV (fun i => PP (11 + i)) (fun i => PP (4 + i)) = x := ⟨_, rfl⟩
  obtain ⟨H5, hH5⟩ : ∃ x, (H4 || apH (fun i => PP (11 + i)) (fun i => PP (4 + i))) = x := ⟨_, rfl⟩
  rw [hAV, hH5] at AC
  have AC := Lib.hid AC
  obtain ⟨dt, hdt⟩ : ∃ x, PP 0 = x := ⟨_, rfl⟩
  have GC := fun (x : World) (k : x.cell? c = some (.bool H5)) (f : x.frozen? c = false) => fmul_any c H5 10529810258 dt 30 x k f
  obtain ⟨gv, hgv⟩ : ∃ x, mulV 10529810258 dt 30 = x := ⟨_, rfl⟩
  obtain ⟨H6, hH6⟩ : ∃ x, (H5 || mulH 10529810258 dt 30) = x := ⟨_, rfl⟩
  rw [hgv, hH6] at GC
  have GC := Lib.hid GC
  obtain ⟨VV, hVV⟩ : ∃ x, partF KS 4 = x := ⟨_, rfl⟩
  obtain ⟨XX, hXX⟩ : ∃ x, partF KS 7 = x := ⟨_, rfl⟩
  have NC := fun (x : World) (b : Nat) (k : x.cell? c = some (.bool H6)) (f : x.frozen? c = false) (s : VLs x b 0 3 (v3L VV AV (vc3 0 0 gv))) => vadd_any c H6 b 0 3 3 (v3L VV AV (vc3 0 0 gv)) x k f (by decide) (by decide) s
  obtain ⟨NN, hNN⟩ : ∃ x, vaV (v3L VV AV (vc3 0 0 gv)) 3 = x := ⟨_, rfl⟩
  obtain ⟨H7, hH7⟩ : ∃ x, (H6 || orB (vaH (v3L VV AV (vc3 0 0 gv)) 3) 3) = x := ⟨_, rfl⟩
  rw [hNN, hH7] at NC
  have NC := Lib.hid NC
  have FC := fun (x : World) (k : x.cell? c = some (.bool H7)) (f : x.frozen? c = false) => fmul_any c H7 dt 536870912 30 x k f
  obtain ⟨hv, hhv⟩ : ∃ x, mulV dt 536870912 30 = x := ⟨_, rfl⟩
  obtain ⟨H8, hH8⟩ : ∃ x, (H7 || mulH dt 536870912 30) = x := ⟨_, rfl⟩
  rw [hhv, hH8] at FC
  have FC := Lib.hid FC
  have MC := fun (x : World) (b : Nat) (k : x.cell? c = some (.bool H8)) (f : x.frozen? c = false) (s : VLs x b 0 2 (v2L VV NN)) => vadd_any c H8 b 0 2 2 (v2L VV NN) x k f (by decide) (by decide) s
  obtain ⟨MM, hMM⟩ : ∃ x, vaV (v2L VV NN) 2 = x := ⟨_, rfl⟩
  obtain ⟨H9, hH9⟩ : ∃ x, (H8 || orB (vaH (v2L VV NN) 2) 3) = x := ⟨_, rfl⟩
  rw [hMM, hH9] at MC
  have MC := Lib.hid MC
  have LC := fun (x : World) (k : x.cell? c = some (.bool H9)) (f : x.frozen? c = false) => vscale_any c H9 MM hv x k f
  obtain ⟨LL, hLL⟩ : ∃ L : Nat → Int, (fun i => mulV (MM i) hv 30) = L := ⟨_, rfl⟩
  obtain ⟨Ha, hHa⟩ : ∃ x, (H9 || orB (fun i => mulH (MM i) hv 30) 3) = x := ⟨_, rfl⟩
  rw [hLL, hHa] at LC
  have LC := Lib.hid LC
  have XC := fun (x : World) (b : Nat) (k : x.cell? c = some (.bool Ha)) (f : x.frozen? c = false) (s : VLs x b 0 2 (v2L XX LL)) => vadd_any c Ha b 0 2 2 (v2L XX LL) x k f (by decide) (by decide) s
  obtain ⟨YY, hYY⟩ : ∃ x, vaV (v2L XX LL) 2 = x := ⟨_, rfl⟩
  obtain ⟨Hb, hHb⟩ : ∃ x, (Ha || orB (vaH (v2L XX LL) 2) 3) = x := ⟨_, rfl⟩
  rw [hYY, hHb] at XC
  have XC := Lib.hid XC
  obtain ⟨S1, hS1⟩ : ∃ x, withF KS 0 4 QU = x := ⟨_, rfl⟩
  obtain ⟨S2, hS2⟩ : ∃ x, withF S1 4 3 NN = x := ⟨_, rfl⟩
  obtain ⟨S3, hS3⟩ : ∃ x, withF S2 7 3 YY = x := ⟨_, rfl⟩
  have EC := fun (x : World) (k : x.cell? c = some (.bool Hb)) (f : x.frozen? c = false) => keep_any c Hb S3 x k f
  obtain ⟨RR, hRR⟩ : ∃ x, keepF S3 = x := ⟨_, rfl⟩
  obtain ⟨Hc, hHc⟩ : ∃ x, (Hb || keepH S3) = x := ⟨_, rfl⟩
  rw [hRR, hHc] at EC
  have EC := Lib.hid EC
  have HE := Lib.hid (show stepN S I = RR ∧ (h || stepH2 S I) = Hc by
    have e1 : stQ KS PP = QU := by unfold stQ; rw [hQM, hQU]
    have e2 : stA PP = AV := by unfold stA; rw [hAV]
    have e3 : stG PP = vc3 0 0 gv := by unfold stG; rw [hdt, hgv]
    have e4 : stN KS PP = NN := by unfold stN; rw [hVV, e2, e3, hNN]
    have e5 : stF PP = hv := by unfold stF; rw [hdt, hhv]
    have e6 : stM KS PP = MM := by unfold stM; rw [hVV, e4, hMM]
    have e7 : stL KS PP = LL := by unfold stL; rw [e6, e5, hLL]
    have e8 : stX KS PP = YY := by unfold stX; rw [hXX, e7, hYY]
    have e9 : stS KS PP = S3 := by unfold stS; rw [e1, e4, e8, hS1, hS2, hS3]
    unfold stepN stepH2 stHH
    rw [hKS, hPP, e2, e3, e4, e5, e6, e7, e9, hVV, hXX, hdt, hQM]
    refine ⟨hRR, ?_⟩
    rw [← hHc, ← hHb, ← hHa, ← hH9, ← hH8, ← hH7, ← hH6, ← hH5, ← hH4, ← hH3, ← hH2, ← hH1]
    simp only [Bool.or_assoc])
  have HDT := Lib.hid hdt
  have HW := Lib.hid (And.intro hS1 (And.intro hS2 hS3))
  have HV := Lib.hid (And.intro hVV hXX)
  clear hKS hPP hH1 hH2 hQM hH3 hQU hH4 hAV hH5 hdt hgv hH6 hVV hXX hNN hH7 hhv hH8 hMM hH9 hLL hHa hYY hHb hS1 hS2 hS3 hRR hHc hc hf
  go_enter Try.func26, Try.ntmps26
  go_upto_region 1 with fail
  generalize ((w.alloc (.cells (arrv 24 S) 32)).alloc (.cells (arrv 8 I) 35)).alloc (.cells #[.int .i64 0, .int .i64 0, .int .i64 0, .int .i64 0, .int .i64 0, .int .i64 0, .int .i64 0, .int .i64 0, .int .i64 0, .int .i64 0, .int .i64 0, .int .i64 0, .int .i64 0, .int .i64 0, .int .i64 0, .int .i64 0, .int .i64 0, .int .i64 0, .int .i64 0, .int .i64 0, .int .i64 0, .int .i64 0, .int .i64 0, .int .i64 0] 32) = W0 at *
  have P0 := S0.out.s
  have I0 := S0.out.i
  refine wp_region_lit ?_
  refine wpList_val (v := ?_) rfl ?_ ?_
  rotate_left
  · (go_simp; (try (first | with_reducible rfl | (constructor <;> with_reducible rfl))))
  (try simp only [Act.put, nA, nB, nC])
  refine wpList_val (v := ?_) rfl ?_ ?_
  rotate_left
  · refine Eq.trans (run_load_row 32 (.tmp 4) (by rfl) (w.heap.size) (by rfl) _ _ _ _ (P0) Try.underlying32 rfl (ist.trans (by rw [arrv_size]))) ?_; with_reducible rfl
  (try simp only [Act.put, nA, nB, nC])
  refine wpList_val (v := ?_) rfl ?_ ?_
  rotate_left
  · (refine Eq.trans (run_load_row 35 (.tmp 5) (by rfl) (w.heap.size + 1) (by rfl) _ _ _ _ I0 Try.underlying35 rfl (iimu.trans (by rw [arrv_size]))) ?_; with_reducible rfl)
  (try simp only [Act.put, nA, nB, nC])
  refine wpList_step (fun K hK => ?_)
  go_simp
  (refine (SC.out _ S0.out.cell S0.out.free).mono ?_); rintro e w1 ⟨rfl, hu⟩; have S1' := Lib.hid (S0.out.upd' hu); clear hu P0 I0 S0 SC; have NB := Lib.hid (ts_new20 S1'.out)
  (try dsimp only)
  (try simp only [Act.put, nA, nB, nC])
  refine hK _ _ ?_
  clear hK K
  refine wpList_act (v := ?_) (w' := ?_) rfl ?_ ?_
  rotate_left 2
  · (go_simp; (try (first | with_reducible rfl | (constructor <;> with_reducible rfl))))
  (try simp only [Act.put, nA, nB, nC])
  refine wpList_done (w' := ?_) rfl ?_ ?_
  rotate_left
  · (refine Eq.trans (run_store_row 94 (.tmp 7) (.tmp 16) (by rfl) (w1.heap.size) (by rfl) (by rfl) NB.out.1 (iprt.trans rfl)) ?_; with_reducible rfl)
  (try simp only [Act.put, nA, nB, nC])
  refine wpList_nil ?_
  have HS := Lib.hid ((S1'.out.alloc (.cells #[.int .i64 0, .int .i64 0, .int .i64 0, .int .i64 0, .int .i64 0, .int .i64 0, .int .i64 0, .int .i64 0, .int .i64 0, .int .i64 0, .int .i64 0, .int .i64 0, .int .i64 0, .int .i64 0, .int .i64 0, .int .i64 0, .int .i64 0, .int .i64 0, .int .i64 0, .int .i64 0] 94)).put NB.out.1 NB.out.2 PP)
  generalize (w1.alloc (.cells #[.int .i64 0, .int .i64 0, .int .i64 0, .int .i64 0, .int .i64 0, .int .i64 0, .int .i64 0, .int .i64 0, .int .i64 0, .int .i64 0, .int .i64 0, .int .i64 0, .int .i64 0, .int .i64 0, .int .i64 0, .int .i64 0, .int .i64 0, .int .i64 0, .int .i64 0, .int .i64 0] 94)).setRow w1.heap.size (arrv 20 PP) = W1 at *
  obtain ⟨pb, hpb⟩ : ∃ x, w1.heap.size = x := ⟨_, rfl⟩
  rw [hpb] at HS ⊢
  clear hpb NB S1'
  have P0 := HS.out.s
  go_upto_region 3 with (first | (refine wpList_load_row rfl 32 _ rfl (w.heap.size) rfl 32 _ (0, 0) _ (P0) Try.underlying32 rfl (ist.trans (by rw [arrv_size])) ?_) | (go_at_call 22; (refine (KC.out _ HS.out.cell HS.out.free).mono ?_); rintro e w2 ⟨rfl, hu1⟩; have HT := Lib.hid (HS.out.upd' hu1); have P1 := HT.out.s; clear hu1 HS KC) | (refine wpList_store_row rfl 32 _ _ rfl (w.heap.size) _ rfl rfl 32 _ (P1) (ist.trans (by rw [arrv_size])) (by rw [arrv_size, arrv_size]) (oneCell_arrv _ _) ?_))
  have HS := Lib.hid ((HT.out.rowS KS).drew)
  generalize w2.setRow w.heap.size (arrv 24 KS) = W2 at *
  clear P0 P1 HT
  (try simp only [Act.put])
  go_cut [8] from 20 to 27 (fun s8 wx => ∃ b, s8 = .pointer (some ⟨b, 0, none⟩) ∧ Hid (TsR c H4 KS I [⟨b, 42, 4, QU⟩, ⟨pb, 94, 20, PP⟩] (b + 1) w wx))
  case first =>
    refine wp_region_M (fun w' => Blk w' w.heap.size 32 24 KS ∧ Blk w' pb 94 20 PP) 9 (by kernel_rfl) ?_ (fun hHeld => ?_)
    · exact ⟨HS.out.s, HS.out.ex0⟩
    refine wpAnyM_take 0 (v := ?_) rfl (by kernel_rfl) (fun _ _ _ h => h) (Or.inl ⟨by rfl, ?_⟩) (by assumption) ?_
    rotate_left
    · (intro wx hSw; (try dsimp only at hSw); go_simp; (try with_reducible rfl))
    (try simp only [Act.put, nA, nB, nC])
    refine wpAnyM_take 1 (v := ?_) rfl (by kernel_rfl) (fun _ _ _ h => h) (Or.inl ⟨by rfl, ?_⟩) (by assumption) ?_
    rotate_left
    · (intro wx hSw; (try dsimp only at hSw); go_simp; (try with_reducible rfl))
    (try simp only [Act.put, nA, nB, nC])
    refine wpAnyM_take 2 (v := ?_) rfl (by kernel_rfl) (fun _ _ _ h => h) (Or.inl ⟨by rfl, ?_⟩) (by assumption) ?_
    rotate_left
    · (intro wx hSw; refine Eq.trans (run_load_row 32 (.tmp 4) (by rfl) (w.heap.size) (by rfl) _ _ _ _ (hSw.1) Try.underlying32 rfl (ist.trans (by rw [arrv_size]))) ?_; with_reducible rfl)
    (try simp only [Act.put, nA, nB, nC])
    refine wpAnyM_take 4 (v := ?_) rfl (by kernel_rfl) (fun _ _ _ h => h) (Or.inl ⟨by rfl, ?_⟩) (by assumption) ?_
    rotate_left
    · (intro wx hSw; (try dsimp only at hSw); go_simp; (try with_reducible rfl))
    (try simp only [Act.put, nA, nB, nC])
    refine wpAnyM_take 5 (v := ?_) rfl (by kernel_rfl) (fun _ _ _ h => h) (Or.inl ⟨by rfl, ?_⟩) (by assumption) ?_
    rotate_left
    · (intro wx hSw; refine Eq.trans (run_load_sub 42 (.tmp 24) (by rfl) pb 7 4 (by rfl) hSw.2 (by decide) _ Try.underlying42 rfl iqt) ?_; with_reducible rfl)
    (try simp only [Act.put, nA, nB, nC])
    refine wpAnyM_twoS 3 8 rfl rfl (by kernel_rfl) (fun K hK => ?_) (fun K hK => ?_)
    · go_simp
      (refine (att_any KS _).mono ?_); rintro e w3 ⟨rfl, hb⟩; have HS2 := Lib.hid (HS.out.down hb); clear HS; have HS := HS2; clear HS2; (try (have HA2 := Lib.hid (And.intro (HA.out.1.below hb) HA.out.2); clear HA; have HA := HA2; clear HA2)); (try (have HL2 := Lib.hid (HL.out.below hb); clear HL; have HL := HL2; clear HL2)); (try (have HM2 := Lib.hid (HM.out.below hb); clear HM; have HM := HM2; clear HM2)); clear hb
      (try dsimp only)
      (try simp only [Act.put, nA, nB, nC])
      clear hHeld
      refine hK.out _ _ ?_ (fun hHeld => ?_)
      · exact ⟨HS.out.s, HS.out.ex0⟩
      clear hK K
      (try simp only [Act.put, nA, nB, nC])
      refine wpAnyM_twoS 6 8 rfl rfl (by kernel_rfl) (fun K hK => ?_) (fun K hK => ?_)
      · go_simp
        (refine (QC.out _ HS.out.cell HS.out.free).mono ?_); rintro e w4 ⟨rfl, hu⟩; have hcl := HS.out.cell; have hcb := HS.out.cb; have hlm := HS.out.lim; have HS2 := Lib.hid (HS.out.upd' hu); clear HS; have HS := HS2; clear HS2; (try (have HA2 := Lib.hid (And.intro (HA.out.1.upd hu (by have := HA.out.2; omega)) HA.out.2); clear HA; have HA := HA2; clear HA2)); (try (have HL2 := Lib.hid (HL.out.upd hcl hu); clear HL; have HL := HL2; clear HL2)); (try (have HM2 := Lib.hid (HM.out.upd hcl hu); clear HM; have HM := HM2; clear HM2)); clear hu hcl hcb hlm
        (try dsimp only)
        (try simp only [Act.put, nA, nB, nC])
        clear hHeld
        refine hK.out _ _ ?_ (fun hHeld => ?_)
        · exact ⟨HS.out.s, HS.out.ex0⟩
        clear hK K
        (try simp only [Act.put, nA, nB, nC])
        refine wpAnyM_twoS 7 8 rfl rfl (by kernel_rfl) (fun K hK => ?_) (fun K hK => ?_)
        · go_simp
          (refine (UC.out _ HS.out.cell HS.out.free).mono ?_); rintro e w5 ⟨rfl, hu⟩; have hcl := HS.out.cell; have hcb := HS.out.cb; have hlm := HS.out.lim; have HS2 := Lib.hid (HS.out.upd' hu); clear HS; have HS := HS2; clear HS2; (try (have HA2 := Lib.hid (And.intro (HA.out.1.upd hu (by have := HA.out.2; omega)) HA.out.2); clear HA; have HA := HA2; clear HA2)); (try (have HL2 := Lib.hid (HL.out.upd hcl hu); clear HL; have HL := HL2; clear HL2)); (try (have HM2 := Lib.hid (HM.out.upd hcl hu); clear HM; have HM := HM2; clear HM2)); clear hu hcl hcb hlm
          (try dsimp only)
          (try simp only [Act.put, nA, nB, nC])
          clear hHeld
          refine hK.out _ _ ?_ (fun hHeld => ?_)
          · exact ⟨HS.out.s, HS.out.ex0⟩
          clear hK K
          (try simp only [Act.put, nA, nB, nC])
          refine wpAnyM_oneS 8 rfl (by kernel_rfl) (fun K hK => ?_)
          go_simp; have HA := Lib.hid (ts_new4 HS.out _ (by first | (simp; rfl) | rfl)); have HS2 := Lib.hid (HS.out.alloc (.cells #[.int .i64 0, .int .i64 0, .int .i64 0, .int .i64 0] 42)); clear HS; have HS := HS2; clear HS2; (try (have HL2 := Lib.hid (HL.out.below (Below.alloc (Below.refl _ _) (Nat.le_refl _) (.cells #[.int .i64 0, .int .i64 0, .int .i64 0, .int .i64 0] 42))); clear HL; have HL := HL2; clear HL2)); (try (have HM2 := Lib.hid (HM.out.below (Below.alloc (Below.refl _ _) (Nat.le_refl _) (.cells #[.int .i64 0, .int .i64 0, .int .i64 0, .int .i64 0] 42))); clear HM; have HM := HM2; clear HM2))
          clear hHeld
          refine hK.out _ _ ?_ (fun hHeld => ?_)
          · exact ⟨HS.out.s, HS.out.ex0⟩
          clear hK K
          (try simp only [Act.put, nA, nB, nC])
          refine wpAnyM_one 9 rfl (by kernel_rfl) (fun K hK => ?_)
          refine if_pos_of rfl ?_; refine wp_of_run (run_store_row 42 (.tmp 8) (.tmp 27) rfl _ rfl rfl HA.out.1 iqt) ?_
          refine hK.out _ _ (.inl (by kernel_rfl)) (fun _ => ?_)
          clear hK K
          (try simp only [Act.put, nA, nB, nC])
          refine wpAnyM_done (by kernel_rfl) ?_ _
          (go_wp2_with fail; go_meet; exact ⟨_, rfl, Lib.hid (HS.out.put HA.out.1 HA.out.2 QU)⟩)
        · go_simp; have HA := Lib.hid (ts_new4 HS.out _ (by first | (simp; rfl) | rfl)); have HS2 := Lib.hid (HS.out.alloc (.cells #[.int .i64 0, .int .i64 0, .int .i64 0, .int .i64 0] 42)); clear HS; have HS := HS2; clear HS2; (try (have HL2 := Lib.hid (HL.out.below (Below.alloc (Below.refl _ _) (Nat.le_refl _) (.cells #[.int .i64 0, .int .i64 0, .int .i64 0, .int .i64 0] 42))); clear HL; have HL := HL2; clear HL2)); (try (have HM2 := Lib.hid (HM.out.below (Below.alloc (Below.refl _ _) (Nat.le_refl _) (.cells #[.int .i64 0, .int .i64 0, .int .i64 0, .int .i64 0] 42))); clear HM; have HM := HM2; clear HM2))
          clear hHeld
          refine hK.out _ _ ?_ (fun hHeld => ?_)
          · exact ⟨HS.out.s, HS.out.ex0⟩
          clear hK K
          (try simp only [Act.put, nA, nB, nC])
          refine wpAnyM_oneS 7 rfl (by kernel_rfl) (fun K hK => ?_)
          go_simp
          (refine (UC.out _ HS.out.cell HS.out.free).mono ?_); rintro e w5 ⟨rfl, hu⟩; have hcl := HS.out.cell; have hcb := HS.out.cb; have hlm := HS.out.lim; have HS2 := Lib.hid (HS.out.upd' hu); clear HS; have HS := HS2; clear HS2; (try (have HA2 := Lib.hid (And.intro (HA.out.1.upd hu (by have := HA.out.2; omega)) HA.out.2); clear HA; have HA := HA2; clear HA2)); (try (have HL2 := Lib.hid (HL.out.upd hcl hu); clear HL; have HL := HL2; clear HL2)); (try (have HM2 := Lib.hid (HM.out.upd hcl hu); clear HM; have HM := HM2; clear HM2)); clear hu hcl hcb hlm
          (try dsimp only)
          (try simp only [Act.put, nA, nB, nC])
          clear hHeld
          refine hK.out _ _ ?_ (fun hHeld => ?_)
          · exact ⟨HS.out.s, HS.out.ex0⟩
          clear hK K
          (try simp only [Act.put, nA, nB, nC])
          refine wpAnyM_one 9 rfl (by kernel_rfl) (fun K hK => ?_)
          refine if_pos_of rfl ?_; refine wp_of_run (run_store_row 42 (.tmp 8) (.tmp 27) rfl _ rfl rfl HA.out.1 iqt) ?_
          refine hK.out _ _ (.inl (by kernel_rfl)) (fun _ => ?_)
          clear hK K
          (try simp only [Act.put, nA, nB, nC])
          refine wpAnyM_done (by kernel_rfl) ?_ _
          (go_wp2_with fail; go_meet; exact ⟨_, rfl, Lib.hid (HS.out.put HA.out.1 HA.out.2 QU)⟩)
      · go_simp; have HA := Lib.hid (ts_new4 HS.out _ (by first | (simp; rfl) | rfl)); have HS2 := Lib.hid (HS.out.alloc (.cells #[.int .i64 0, .int .i64 0, .int .i64 0, .int .i64 0] 42)); clear HS; have HS := HS2; clear HS2; (try (have HL2 := Lib.hid (HL.out.below (Below.alloc (Below.refl _ _) (Nat.le_refl _) (.cells #[.int .i64 0, .int .i64 0, .int .i64 0, .int .i64 0] 42))); clear HL; have HL := HL2; clear HL2)); (try (have HM2 := Lib.hid (HM.out.below (Below.alloc (Below.refl _ _) (Nat.le_refl _) (.cells #[.int .i64 0, .int .i64 0, .int .i64 0, .int .i64 0] 42))); clear HM; have HM := HM2; clear HM2))
        clear hHeld
        refine hK.out _ _ ?_ (fun hHeld => ?_)
        · exact ⟨HS.out.s, HS.out.ex0⟩
        clear hK K
        (try simp only [Act.put, nA, nB, nC])
        refine wpAnyM_oneS 6 rfl (by kernel_rfl) (fun K hK => ?_)
        go_simp
        (refine (QC.out _ HS.out.cell HS.out.free).mono ?_); rintro e w4 ⟨rfl, hu⟩; have hcl := HS.out.cell; have hcb := HS.out.cb; have hlm := HS.out.lim; have HS2 := Lib.hid (HS.out.upd' hu); clear HS; have HS := HS2; clear HS2; (try (have HA2 := Lib.hid (And.intro (HA.out.1.upd hu (by have := HA.out.2; omega)) HA.out.2); clear HA; have HA := HA2; clear HA2)); (try (have HL2 := Lib.hid (HL.out.upd hcl hu); clear HL; have HL := HL2; clear HL2)); (try (have HM2 := Lib.hid (HM.out.upd hcl hu); clear HM; have HM := HM2; clear HM2)); clear hu hcl hcb hlm
        (try dsimp only)
        (try simp only [Act.put, nA, nB, nC])
        clear hHeld
        refine hK.out _ _ ?_ (fun hHeld => ?_)
        · exact ⟨HS.out.s, HS.out.ex0⟩
        clear hK K
        (try simp only [Act.put, nA, nB, nC])
        refine wpAnyM_oneS 7 rfl (by kernel_rfl) (fun K hK => ?_)
        go_simp
        (refine (UC.out _ HS.out.cell HS.out.free).mono ?_); rintro e w5 ⟨rfl, hu⟩; have hcl := HS.out.cell; have hcb := HS.out.cb; have hlm := HS.out.lim; have HS2 := Lib.hid (HS.out.upd' hu); clear HS; have HS := HS2; clear HS2; (try (have HA2 := Lib.hid (And.intro (HA.out.1.upd hu (by have := HA.out.2; omega)) HA.out.2); clear HA; have HA := HA2; clear HA2)); (try (have HL2 := Lib.hid (HL.out.upd hcl hu); clear HL; have HL := HL2; clear HL2)); (try (have HM2 := Lib.hid (HM.out.upd hcl hu); clear HM; have HM := HM2; clear HM2)); clear hu hcl hcb hlm
        (try dsimp only)
        (try simp only [Act.put, nA, nB, nC])
        clear hHeld
        refine hK.out _ _ ?_ (fun hHeld => ?_)
        · exact ⟨HS.out.s, HS.out.ex0⟩
        clear hK K
        (try simp only [Act.put, nA, nB, nC])
        refine wpAnyM_one 9 rfl (by kernel_rfl) (fun K hK => ?_)
        refine if_pos_of rfl ?_; refine wp_of_run (run_store_row 42 (.tmp 8) (.tmp 27) rfl _ rfl rfl HA.out.1 iqt) ?_
        refine hK.out _ _ (.inl (by kernel_rfl)) (fun _ => ?_)
        clear hK K
        (try simp only [Act.put, nA, nB, nC])
        refine wpAnyM_done (by kernel_rfl) ?_ _
        (go_wp2_with fail; go_meet; exact ⟨_, rfl, Lib.hid (HS.out.put HA.out.1 HA.out.2 QU)⟩)
    · go_simp; have HA := Lib.hid (ts_new4 HS.out _ (by first | (simp; rfl) | rfl)); have HS2 := Lib.hid (HS.out.alloc (.cells #[.int .i64 0, .int .i64 0, .int .i64 0, .int .i64 0] 42)); clear HS; have HS := HS2; clear HS2; (try (have HL2 := Lib.hid (HL.out.below (Below.alloc (Below.refl _ _) (Nat.le_refl _) (.cells #[.int .i64 0, .int .i64 0, .int .i64 0, .int .i64 0] 42))); clear HL; have HL := HL2; clear HL2)); (try (have HM2 := Lib.hid (HM.out.below (Below.alloc (Below.refl _ _) (Nat.le_refl _) (.cells #[.int .i64 0, .int .i64 0, .int .i64 0, .int .i64 0] 42))); clear HM; have HM := HM2; clear HM2))
      clear hHeld
      refine hK.out _ _ ?_ (fun hHeld => ?_)
      · exact ⟨HS.out.s, HS.out.ex0⟩
      clear hK K
      (try simp only [Act.put, nA, nB, nC])
      refine wpAnyM_oneS 3 rfl (by kernel_rfl) (fun K hK => ?_)
      go_simp
      (refine (att_any KS _).mono ?_); rintro e w3 ⟨rfl, hb⟩; have HS2 := Lib.hid (HS.out.down hb); clear HS; have HS := HS2; clear HS2; (try (have HA2 := Lib.hid (And.intro (HA.out.1.below hb) HA.out.2); clear HA; have HA := HA2; clear HA2)); (try (have HL2 := Lib.hid (HL.out.below hb); clear HL; have HL := HL2; clear HL2)); (try (have HM2 := Lib.hid (HM.out.below hb); clear HM; have HM := HM2; clear HM2)); clear hb
      (try dsimp only)
      (try simp only [Act.put, nA, nB, nC])
      clear hHeld
      refine hK.out _ _ ?_ (fun hHeld => ?_)
      · exact ⟨HS.out.s, HS.out.ex0⟩
      clear hK K
      (try simp only [Act.put, nA, nB, nC])
      refine wpAnyM_oneS 6 rfl (by kernel_rfl) (fun K hK => ?_)
      go_simp
      (refine (QC.out _ HS.out.cell HS.out.free).mono ?_); rintro e w4 ⟨rfl, hu⟩; have hcl := HS.out.cell; have hcb := HS.out.cb; have hlm := HS.out.lim; have HS2 := Lib.hid (HS.out.upd' hu); clear HS; have HS := HS2; clear HS2; (try (have HA2 := Lib.hid (And.intro (HA.out.1.upd hu (by have := HA.out.2; omega)) HA.out.2); clear HA; have HA := HA2; clear HA2)); (try (have HL2 := Lib.hid (HL.out.upd hcl hu); clear HL; have HL := HL2; clear HL2)); (try (have HM2 := Lib.hid (HM.out.upd hcl hu); clear HM; have HM := HM2; clear HM2)); clear hu hcl hcb hlm
      (try dsimp only)
      (try simp only [Act.put, nA, nB, nC])
      clear hHeld
      refine hK.out _ _ ?_ (fun hHeld => ?_)
      · exact ⟨HS.out.s, HS.out.ex0⟩
      clear hK K
      (try simp only [Act.put, nA, nB, nC])
      refine wpAnyM_oneS 7 rfl (by kernel_rfl) (fun K hK => ?_)
      go_simp
      (refine (UC.out _ HS.out.cell HS.out.free).mono ?_); rintro e w5 ⟨rfl, hu⟩; have hcl := HS.out.cell; have hcb := HS.out.cb; have hlm := HS.out.lim; have HS2 := Lib.hid (HS.out.upd' hu); clear HS; have HS := HS2; clear HS2; (try (have HA2 := Lib.hid (And.intro (HA.out.1.upd hu (by have := HA.out.2; omega)) HA.out.2); clear HA; have HA := HA2; clear HA2)); (try (have HL2 := Lib.hid (HL.out.upd hcl hu); clear HL; have HL := HL2; clear HL2)); (try (have HM2 := Lib.hid (HM.out.upd hcl hu); clear HM; have HM := HM2; clear HM2)); clear hu hcl hcb hlm
      (try dsimp only)
      (try simp only [Act.put, nA, nB, nC])
      clear hHeld
      refine hK.out _ _ ?_ (fun hHeld => ?_)
      · exact ⟨HS.out.s, HS.out.ex0⟩
      clear hK K
      (try simp only [Act.put, nA, nB, nC])
      refine wpAnyM_one 9 rfl (by kernel_rfl) (fun K hK => ?_)
      refine if_pos_of rfl ?_; refine wp_of_run (run_store_row 42 (.tmp 8) (.tmp 27) rfl _ rfl rfl HA.out.1 iqt) ?_
      refine hK.out _ _ (.inl (by kernel_rfl)) (fun _ => ?_)
      clear hK K
      (try simp only [Act.put, nA, nB, nC])
      refine wpAnyM_done (by kernel_rfl) ?_ _
      (go_wp2_with fail; go_meet; exact ⟨_, rfl, Lib.hid (HS.out.put HA.out.1 HA.out.2 QU)⟩)
  case rest =>
  obtain ⟨qb, rfl, HB⟩ := hcut
  clear HS QC UC
  have P0 := HB.out.s
  go_upto_region 4 with fail
  refine wp_region_lit ?_
  refine wpList_val (v := ?_) rfl ?_ ?_
  rotate_left
  · refine Eq.trans (run_load_row 32 (.tmp 4) (by rfl) (w.heap.size) (by rfl) _ _ _ _ (P0) Try.underlying32 rfl (ist.trans (by rw [arrv_size]))) ?_; with_reducible rfl
  (try simp only [Act.put, nA, nB, nC])
  refine wpList_step (fun K hK => ?_)
  go_simp
  (refine (part_any KS 4 _ (by decide) (by decide)).mono ?_); (rw [HV.out.1]); rintro e w6 ⟨rfl, hb⟩; have HT := Lib.hid (HB.out.down hb); clear hb P0 HB; have NB := Lib.hid (ts_new3 HT.out _ rfl)
  (try dsimp only)
  (try simp only [Act.put, nA, nB, nC])
  refine hK _ _ ?_
  clear hK K
  refine wpList_act (v := ?_) (w' := ?_) rfl ?_ ?_
  rotate_left 2
  · (go_simp; (try (first | with_reducible rfl | (constructor <;> with_reducible rfl))))
  (try simp only [Act.put, nA, nB, nC])
  refine wpList_done (w' := ?_) rfl ?_ ?_
  rotate_left
  · (refine Eq.trans (run_store_row 43 (.tmp 9) (.tmp 29) (by rfl) (w6.heap.size) (by rfl) (by rfl) NB.out.1 (iv3.trans rfl)) ?_; with_reducible rfl)
  (try simp only [Act.put, nA, nB, nC])
  refine wpList_nil ?_
  have HU := Lib.hid ((HT.out.alloc (.cells #[.int .i64 0, .int .i64 0, .int .i64 0] 43)).put NB.out.1 NB.out.2 VV)
  generalize (w6.alloc (.cells #[.int .i64 0, .int .i64 0, .int .i64 0] 43)).setRow w6.heap.size (arrv 3 VV) = W4 at *
  obtain ⟨vb, hvb⟩ : ∃ x, w6.heap.size = x := ⟨_, rfl⟩
  rw [hvb] at HU ⊢
  clear hvb NB HT
  go_upto_region 5 with fail
  have HS := Lib.hid HU.out.drew
  clear HU
  (try simp only [Act.put])
  go_cut [10] from 30 to 44 (fun s10 wx => ∃ b, s10 = .pointer (some ⟨b, 0, none⟩) ∧ Hid (TsR c H7 KS I [⟨b, 43, 3, NN⟩, ⟨vb, 43, 3, VV⟩, ⟨qb, 42, 4, QU⟩, ⟨pb, 94, 20, PP⟩] (b + 1) w wx))
  case first =>
    refine wp_region_M (fun w' => Blk w' vb 43 3 VV ∧ Blk w' pb 94 20 PP) 16 (by kernel_rfl) ?_ (fun hHeld => ?_)
    · exact ⟨HS.out.ex0, HS.out.ex2⟩
    refine wpAnyM_take 0 (v := ?_) rfl (by kernel_rfl) (fun _ _ _ h => h) (Or.inl ⟨by rfl, ?_⟩) (by assumption) ?_
    rotate_left
    · (intro wx hSw; (try dsimp only at hSw); go_simp; (try with_reducible rfl))
    (try simp only [Act.put, nA, nB, nC])
    refine wpAnyM_take 1 (v := ?_) rfl (by kernel_rfl) (fun _ _ _ h => h) (Or.inl ⟨by rfl, ?_⟩) (by assumption) ?_
    rotate_left
    · (intro wx hSw; refine Eq.trans (run_load_row 43 (.tmp 9) (by rfl) (vb) (by rfl) _ _ _ _ (hSw.1) Try.underlying43 rfl (iv3.trans (by rw [arrv_size]))) ?_; with_reducible rfl)
    (try simp only [Act.put, nA, nB, nC])
    refine wpAnyM_take 2 (v := ?_) rfl (by kernel_rfl) (fun _ _ _ h => h) (Or.inl ⟨by rfl, ?_⟩) (by assumption) ?_
    rotate_left
    · (intro wx hSw; (try dsimp only at hSw); go_simp; (try with_reducible rfl))
    (try simp only [Act.put, nA, nB, nC])
    refine wpAnyM_take 3 (v := ?_) rfl (by kernel_rfl) (fun _ _ _ h => h) (Or.inl ⟨by rfl, ?_⟩) (by assumption) ?_
    rotate_left
    · (intro wx hSw; (try dsimp only at hSw); go_simp; (try with_reducible rfl))
    (try simp only [Act.put, nA, nB, nC])
    refine wpAnyM_take 4 (v := ?_) rfl (by kernel_rfl) (fun _ _ _ h => h) (Or.inl ⟨by rfl, ?_⟩) (by assumption) ?_
    rotate_left
    · (intro wx hSw; refine Eq.trans (run_load_sub 92 (.tmp 33) (by rfl) pb 11 9 (by rfl) hSw.2 (by decide) _ Try.underlying92 rfl im9) ?_; with_reducible rfl)
    (try simp only [Act.put, nA, nB, nC])
    refine wpAnyM_take 5 (v := ?_) rfl (by kernel_rfl) (fun _ _ _ h => h) (Or.inl ⟨by rfl, ?_⟩) (by assumption) ?_
    rotate_left
    · (intro wx hSw; (try dsimp only at hSw); go_simp; (try with_reducible rfl))
    (try simp only [Act.put, nA, nB, nC])
    refine wpAnyM_take 6 (v := ?_) rfl (by kernel_rfl) (fun _ _ _ h => h) (Or.inl ⟨by rfl, ?_⟩) (by assumption) ?_
    rotate_left
    · (intro wx hSw; refine Eq.trans (run_load_sub 43 (.tmp 35) (by rfl) pb 4 3 (by rfl) hSw.2 (by decide) _ Try.underlying43 rfl iv3) ?_; with_reducible rfl)
    (try simp only [Act.put, nA, nB, nC])
    refine wpAnyM_take 8 (v := ?_) rfl (by kernel_rfl) (fun _ _ _ h => h) (Or.inl ⟨by rfl, ?_⟩) (by assumption) ?_
    rotate_left
    · (intro wx hSw; (try dsimp only at hSw); go_simp; (try with_reducible rfl))
    (try simp only [Act.put, nA, nB, nC])
    refine wpAnyM_take 9 (v := ?_) rfl (by kernel_rfl) (fun _ _ _ h => h) (Or.inl ⟨by rfl, ?_⟩) (by assumption) ?_
    rotate_left
    · (intro wx hSw; (try dsimp only at hSw); go_simp; (try with_reducible rfl))
    (try simp only [Act.put, nA, nB, nC])
    refine wpAnyM_take 10 (v := ?_) rfl (by kernel_rfl) (fun _ _ _ h => h) (Or.inl ⟨by rfl, ?_⟩) (by assumption) ?_
    rotate_left
    · (intro wx hSw; have h0 := hSw.2.cell (i := 0) (by decide); rw [HDT.out] at h0; go_simp; (try with_reducible rfl))
    (try simp only [Act.put, nA, nB, nC])
    refine wpAnyM_twoS 7 15 rfl rfl (by kernel_rfl) (fun K hK => ?_) (fun K hK => ?_)
    · go_simp
      (refine (AC.out _ HS.out.cell HS.out.free).mono ?_); rintro e w7 ⟨rfl, hu⟩; have hcl := HS.out.cell; have hcb := HS.out.cb; have hlm := HS.out.lim; have HS2 := Lib.hid (HS.out.upd' hu); clear HS; have HS := HS2; clear HS2; (try (have HA2 := Lib.hid (And.intro (HA.out.1.upd hu (by have := HA.out.2; omega)) HA.out.2); clear HA; have HA := HA2; clear HA2)); (try (have HL2 := Lib.hid (HL.out.upd hcl hu); clear HL; have HL := HL2; clear HL2)); (try (have HM2 := Lib.hid (HM.out.upd hcl hu); clear HM; have HM := HM2; clear HM2)); clear hu hcl hcb hlm
      (try dsimp only)
      (try simp only [Act.put, nA, nB, nC])
      clear hHeld
      refine hK.out _ _ ?_ (fun hHeld => ?_)
      · exact ⟨HS.out.ex0, HS.out.ex2⟩
      clear hK K
      (try simp only [Act.put, nA, nB, nC])
      refine wpAnyM_twoS 11 15 rfl rfl (by kernel_rfl) (fun K hK => ?_) (fun K hK => ?_)
      · go_simp
        (refine (GC.out _ HS.out.cell HS.out.free).mono ?_); rintro e w8 ⟨rfl, hu⟩; have hcl := HS.out.cell; have hcb := HS.out.cb; have hlm := HS.out.lim; have HS2 := Lib.hid (HS.out.upd' hu); clear HS; have HS := HS2; clear HS2; (try (have HA2 := Lib.hid (And.intro (HA.out.1.upd hu (by have := HA.out.2; omega)) HA.out.2); clear HA; have HA := HA2; clear HA2)); (try (have HL2 := Lib.hid (HL.out.upd hcl hu); clear HL; have HL := HL2; clear HL2)); (try (have HM2 := Lib.hid (HM.out.upd hcl hu); clear HM; have HM := HM2; clear HM2)); clear hu hcl hcb hlm
        (try dsimp only)
        (try simp only [Act.put, nA, nB, nC])
        clear hHeld
        refine hK.out _ _ ?_ (fun hHeld => ?_)
        · exact ⟨HS.out.ex0, HS.out.ex2⟩
        clear hK K
        (try simp only [Act.put, nA, nB, nC])
        refine wpAnyM_take 12 (v := ?_) rfl (by kernel_rfl) (fun _ _ _ h => h) (Or.inl ⟨by rfl, ?_⟩) (by assumption) ?_
        rotate_left
        · (intro wx hSw; refine Eq.trans (run_build_v3z (.tmp 41) (by rfl) (by rfl)) ?_; with_reducible rfl)
        (try simp only [Act.put, nA, nB, nC])
        refine wpAnyM_twoS 13 15 rfl rfl (by kernel_rfl) (fun K hK => ?_) (fun K hK => ?_)
        · refine if_pos_of (by rfl) (wp_bslv3 (.tmp 31) (.tmp 37) (.tmp 42) rfl rfl rfl rfl ?_); have HT := Lib.hid (ts_sl3 HS.out (v3L VV AV (vc3 0 0 gv)) _ (by first | (simp; rfl) | rfl)); clear HS; have HS := Lib.hid HT.out.1; have HL := Lib.hid HT.out.2; clear HT; (try (have HA2 := Lib.hid (And.intro (HA.out.1.alloc (.cells (arrv 9 (sideV (v3L VV AV (vc3 0 0 gv)))) 43)) HA.out.2); clear HA; have HA := HA2; clear HA2))
          clear hHeld
          refine hK.out _ _ ?_ (fun hHeld => ?_)
          · exact ⟨HS.out.ex0, HS.out.ex2⟩
          clear hK K
          (try simp only [Act.put, nA, nB, nC])
          refine wpAnyM_twoS 14 15 rfl rfl (by kernel_rfl) (fun K hK => ?_) (fun K hK => ?_)
          · go_simp
            (refine (NC.out _ _ HS.out.cell HS.out.free HL.out).mono ?_); rintro e w9 ⟨rfl, hu⟩; clear HL; have hcl := HS.out.cell; have hcb := HS.out.cb; have hlm := HS.out.lim; have HS2 := Lib.hid (HS.out.upd' hu); clear HS; have HS := HS2; clear HS2; (try (have HA2 := Lib.hid (And.intro (HA.out.1.upd hu (by have := HA.out.2; omega)) HA.out.2); clear HA; have HA := HA2; clear HA2)); (try (have HL2 := Lib.hid (HL.out.upd hcl hu); clear HL; have HL := HL2; clear HL2)); (try (have HM2 := Lib.hid (HM.out.upd hcl hu); clear HM; have HM := HM2; clear HM2)); clear hu hcl hcb hlm
            (try dsimp only)
            (try simp only [Act.put, nA, nB, nC])
            clear hHeld
            refine hK.out _ _ ?_ (fun hHeld => ?_)
            · exact ⟨HS.out.ex0, HS.out.ex2⟩
            clear hK K
            (try simp only [Act.put, nA, nB, nC])
            refine wpAnyM_oneS 15 rfl (by kernel_rfl) (fun K hK => ?_)
            go_simp; have HA := Lib.hid (ts_new3 HS.out _ (by first | (simp; rfl) | rfl)); have HS2 := Lib.hid (HS.out.alloc (.cells #[.int .i64 0, .int .i64 0, .int .i64 0] 43)); clear HS; have HS := HS2; clear HS2; (try (have HL2 := Lib.hid (HL.out.below (Below.alloc (Below.refl _ _) (Nat.le_refl _) (.cells #[.int .i64 0, .int .i64 0, .int .i64 0] 43))); clear HL; have HL := HL2; clear HL2)); (try (have HM2 := Lib.hid (HM.out.below (Below.alloc (Below.refl _ _) (Nat.le_refl _) (.cells #[.int .i64 0, .int .i64 0, .int .i64 0] 43))); clear HM; have HM := HM2; clear HM2))
            clear hHeld
            refine hK.out _ _ ?_ (fun hHeld => ?_)
            · exact ⟨HS.out.ex0, HS.out.ex2⟩
            clear hK K
            (try simp only [Act.put, nA, nB, nC])
            refine wpAnyM_one 16 rfl (by kernel_rfl) (fun K hK => ?_)
            refine if_pos_of rfl ?_; refine wp_of_run (run_store_row 43 (.tmp 10) (.tmp 44) rfl _ rfl rfl HA.out.1 iv3) ?_
            refine hK.out _ _ (.inl (by kernel_rfl)) (fun _ => ?_)
            clear hK K
            (try simp only [Act.put, nA, nB, nC])
            refine wpAnyM_done (by kernel_rfl) ?_ _
            (go_wp2_with fail; go_meet; exact ⟨_, rfl, Lib.hid (HS.out.put HA.out.1 HA.out.2 NN)⟩)
          · go_simp; have HA := Lib.hid (ts_new3 HS.out _ (by first | (simp; rfl) | rfl)); have HS2 := Lib.hid (HS.out.alloc (.cells #[.int .i64 0, .int .i64 0, .int .i64 0] 43)); clear HS; have HS := HS2; clear HS2; (try (have HL2 := Lib.hid (HL.out.below (Below.alloc (Below.refl _ _) (Nat.le_refl _) (.cells #[.int .i64 0, .int .i64 0, .int .i64 0] 43))); clear HL; have HL := HL2; clear HL2)); (try (have HM2 := Lib.hid (HM.out.below (Below.alloc (Below.refl _ _) (Nat.le_refl _) (.cells #[.int .i64 0, .int .i64 0, .int .i64 0] 43))); clear HM; have HM := HM2; clear HM2))
            clear hHeld
            refine hK.out _ _ ?_ (fun hHeld => ?_)
            · exact ⟨HS.out.ex0, HS.out.ex2⟩
            clear hK K
            (try simp only [Act.put, nA, nB, nC])
            refine wpAnyM_oneS 14 rfl (by kernel_rfl) (fun K hK => ?_)
            go_simp
            (refine (NC.out _ _ HS.out.cell HS.out.free HL.out).mono ?_); rintro e w9 ⟨rfl, hu⟩; clear HL; have hcl := HS.out.cell; have hcb := HS.out.cb; have hlm := HS.out.lim; have HS2 := Lib.hid (HS.out.upd' hu); clear HS; have HS := HS2; clear HS2; (try (have HA2 := Lib.hid (And.intro (HA.out.1.upd hu (by have := HA.out.2; omega)) HA.out.2); clear HA; have HA := HA2; clear HA2)); (try (have HL2 := Lib.hid (HL.out.upd hcl hu); clear HL; have HL := HL2; clear HL2)); (try (have HM2 := Lib.hid (HM.out.upd hcl hu); clear HM; have HM := HM2; clear HM2)); clear hu hcl hcb hlm
            (try dsimp only)
            (try simp only [Act.put, nA, nB, nC])
            clear hHeld
            refine hK.out _ _ ?_ (fun hHeld => ?_)
            · exact ⟨HS.out.ex0, HS.out.ex2⟩
            clear hK K
            (try simp only [Act.put, nA, nB, nC])
            refine wpAnyM_one 16 rfl (by kernel_rfl) (fun K hK => ?_)
            refine if_pos_of rfl ?_; refine wp_of_run (run_store_row 43 (.tmp 10) (.tmp 44) rfl _ rfl rfl HA.out.1 iv3) ?_
            refine hK.out _ _ (.inl (by kernel_rfl)) (fun _ => ?_)
            clear hK K
            (try simp only [Act.put, nA, nB, nC])
            refine wpAnyM_done (by kernel_rfl) ?_ _
            (go_wp2_with fail; go_meet; exact ⟨_, rfl, Lib.hid (HS.out.put HA.out.1 HA.out.2 NN)⟩)
        · go_simp; have HA := Lib.hid (ts_new3 HS.out _ (by first | (simp; rfl) | rfl)); have HS2 := Lib.hid (HS.out.alloc (.cells #[.int .i64 0, .int .i64 0, .int .i64 0] 43)); clear HS; have HS := HS2; clear HS2; (try (have HL2 := Lib.hid (HL.out.below (Below.alloc (Below.refl _ _) (Nat.le_refl _) (.cells #[.int .i64 0, .int .i64 0, .int .i64 0] 43))); clear HL; have HL := HL2; clear HL2)); (try (have HM2 := Lib.hid (HM.out.below (Below.alloc (Below.refl _ _) (Nat.le_refl _) (.cells #[.int .i64 0, .int .i64 0, .int .i64 0] 43))); clear HM; have HM := HM2; clear HM2))
          clear hHeld
          refine hK.out _ _ ?_ (fun hHeld => ?_)
          · exact ⟨HS.out.ex0, HS.out.ex2⟩
          clear hK K
          (try simp only [Act.put, nA, nB, nC])
          refine wpAnyM_oneS 13 rfl (by kernel_rfl) (fun K hK => ?_)
          refine if_pos_of (by rfl) (wp_bslv3 (.tmp 31) (.tmp 37) (.tmp 42) rfl rfl rfl rfl ?_); have HT := Lib.hid (ts_sl3 HS.out (v3L VV AV (vc3 0 0 gv)) _ (by first | (simp; rfl) | rfl)); clear HS; have HS := Lib.hid HT.out.1; have HL := Lib.hid HT.out.2; clear HT; (try (have HA2 := Lib.hid (And.intro (HA.out.1.alloc (.cells (arrv 9 (sideV (v3L VV AV (vc3 0 0 gv)))) 43)) HA.out.2); clear HA; have HA := HA2; clear HA2))
          clear hHeld
          refine hK.out _ _ ?_ (fun hHeld => ?_)
          · exact ⟨HS.out.ex0, HS.out.ex2⟩
          clear hK K
          (try simp only [Act.put, nA, nB, nC])
          refine wpAnyM_oneS 14 rfl (by kernel_rfl) (fun K hK => ?_)
          go_simp
          (refine (NC.out _ _ HS.out.cell HS.out.free HL.out).mono ?_); rintro e w9 ⟨rfl, hu⟩; clear HL; have hcl := HS.out.cell; have hcb := HS.out.cb; have hlm := HS.out.lim; have HS2 := Lib.hid (HS.out.upd' hu); clear HS; have HS := HS2; clear HS2; (try (have HA2 := Lib.hid (And.intro (HA.out.1.upd hu (by have := HA.out.2; omega)) HA.out.2); clear HA; have HA := HA2; clear HA2)); (try (have HL2 := Lib.hid (HL.out.upd hcl hu); clear HL; have HL := HL2; clear HL2)); (try (have HM2 := Lib.hid (HM.out.upd hcl hu); clear HM; have HM := HM2; clear HM2)); clear hu hcl hcb hlm
          (try dsimp only)
          (try simp only [Act.put, nA, nB, nC])
          clear hHeld
          refine hK.out _ _ ?_ (fun hHeld => ?_)
          · exact ⟨HS.out.ex0, HS.out.ex2⟩
          clear hK K
          (try simp only [Act.put, nA, nB, nC])
          refine wpAnyM_one 16 rfl (by kernel_rfl) (fun K hK => ?_)
          refine if_pos_of rfl ?_; refine wp_of_run (run_store_row 43 (.tmp 10) (.tmp 44) rfl _ rfl rfl HA.out.1 iv3) ?_
          refine hK.out _ _ (.inl (by kernel_rfl)) (fun _ => ?_)
          clear hK K
          (try simp only [Act.put, nA, nB, nC])
          refine wpAnyM_done (by kernel_rfl) ?_ _
          (go_wp2_with fail; go_meet; exact ⟨_, rfl, Lib.hid (HS.out.put HA.out.1 HA.out.2 NN)⟩)
      · go_simp; have HA := Lib.hid (ts_new3 HS.out _ (by first | (simp; rfl) | rfl)); have HS2 := Lib.hid (HS.out.alloc (.cells #[.int .i64 0, .int .i64 0, .int .i64 0] 43)); clear HS; have HS := HS2; clear HS2; (try (have HL2 := Lib.hid (HL.out.below (Below.alloc (Below.refl _ _) (Nat.le_refl _) (.cells #[.int .i64 0, .int .i64 0, .int .i64 0] 43))); clear HL; have HL := HL2; clear HL2)); (try (have HM2 := Lib.hid (HM.out.below (Below.alloc (Below.refl _ _) (Nat.le_refl _) (.cells #[.int .i64 0, .int .i64 0, .int .i64 0] 43))); clear HM; have HM := HM2; clear HM2))
        clear hHeld
        refine hK.out _ _ ?_ (fun hHeld => ?_)
        · exact ⟨HS.out.ex0, HS.out.ex2⟩
        clear hK K
        (try simp only [Act.put, nA, nB, nC])
        refine wpAnyM_oneS 11 rfl (by kernel_rfl) (fun K hK => ?_)
        go_simp
        (refine (GC.out _ HS.out.cell HS.out.free).mono ?_); rintro e w8 ⟨rfl, hu⟩; have hcl := HS.out.cell; have hcb := HS.out.cb; have hlm := HS.out.lim; have HS2 := Lib.hid (HS.out.upd' hu); clear HS; have HS := HS2; clear HS2; (try (have HA2 := Lib.hid (And.intro (HA.out.1.upd hu (by have := HA.out.2; omega)) HA.out.2); clear HA; have HA := HA2; clear HA2)); (try (have HL2 := Lib.hid (HL.out.upd hcl hu); clear HL; have HL := HL2; clear HL2)); (try (have HM2 := Lib.hid (HM.out.upd hcl hu); clear HM; have HM := HM2; clear HM2)); clear hu hcl hcb hlm
        (try dsimp only)
        (try simp only [Act.put, nA, nB, nC])
        clear hHeld
        refine hK.out _ _ ?_ (fun hHeld => ?_)
        · exact ⟨HS.out.ex0, HS.out.ex2⟩
        clear hK K
        (try simp only [Act.put, nA, nB, nC])
        refine wpAnyM_take 12 (v := ?_) rfl (by kernel_rfl) (fun _ _ _ h => h) (Or.inl ⟨by rfl, ?_⟩) (by assumption) ?_
        rotate_left
        · (intro wx hSw; refine Eq.trans (run_build_v3z (.tmp 41) (by rfl) (by rfl)) ?_; with_reducible rfl)
        (try simp only [Act.put, nA, nB, nC])
        refine wpAnyM_oneS 13 rfl (by kernel_rfl) (fun K hK => ?_)
        refine if_pos_of (by rfl) (wp_bslv3 (.tmp 31) (.tmp 37) (.tmp 42) rfl rfl rfl rfl ?_); have HT := Lib.hid (ts_sl3 HS.out (v3L VV AV (vc3 0 0 gv)) _ (by first | (simp; rfl) | rfl)); clear HS; have HS := Lib.hid HT.out.1; have HL := Lib.hid HT.out.2; clear HT; (try (have HA2 := Lib.hid (And.intro (HA.out.1.alloc (.cells (arrv 9 (sideV (v3L VV AV (vc3 0 0 gv)))) 43)) HA.out.2); clear HA; have HA := HA2; clear HA2))
        clear hHeld
        refine hK.out _ _ ?_ (fun hHeld => ?_)
        · exact ⟨HS.out.ex0, HS.out.ex2⟩
        clear hK K
        (try simp only [Act.put, nA, nB, nC])
        refine wpAnyM_oneS 14 rfl (by kernel_rfl) (fun K hK => ?_)
        go_simp
        (refine (NC.out _ _ HS.out.cell HS.out.free HL.out).mono ?_); rintro e w9 ⟨rfl, hu⟩; clear HL; have hcl := HS.out.cell; have hcb := HS.out.cb; have hlm := HS.out.lim; have HS2 := Lib.hid (HS.out.upd' hu); clear HS; have HS := HS2; clear HS2; (try (have HA2 := Lib.hid (And.intro (HA.out.1.upd hu (by have := HA.out.2; omega)) HA.out.2); clear HA; have HA := HA2; clear HA2)); (try (have HL2 := Lib.hid (HL.out.upd hcl hu); clear HL; have HL := HL2; clear HL2)); (try (have HM2 := Lib.hid (HM.out.upd hcl hu); clear HM; have HM := HM2; clear HM2)); clear hu hcl hcb hlm
        (try dsimp only)
        (try simp only [Act.put, nA, nB, nC])
        clear hHeld
        refine hK.out _ _ ?_ (fun hHeld => ?_)
        · exact ⟨HS.out.ex0, HS.out.ex2⟩
        clear hK K
        (try simp only [Act.put, nA, nB, nC])
        refine wpAnyM_one 16 rfl (by kernel_rfl) (fun K hK => ?_)
        refine if_pos_of rfl ?_; refine wp_of_run (run_store_row 43 (.tmp 10) (.tmp 44) rfl _ rfl rfl HA.out.1 iv3) ?_
        refine hK.out _ _ (.inl (by kernel_rfl)) (fun _ => ?_)
        clear hK K
        (try simp only [Act.put, nA, nB, nC])
        refine wpAnyM_done (by kernel_rfl) ?_ _
        (go_wp2_with fail; go_meet; exact ⟨_, rfl, Lib.hid (HS.out.put HA.out.1 HA.out.2 NN)⟩)
    · go_simp; have HA := Lib.hid (ts_new3 HS.out _ (by first | (simp; rfl) | rfl)); have HS2 := Lib.hid (HS.out.alloc (.cells #[.int .i64 0, .int .i64 0, .int .i64 0] 43)); clear HS; have HS := HS2; clear HS2; (try (have HL2 := Lib.hid (HL.out.below (Below.alloc (Below.refl _ _) (Nat.le_refl _) (.cells #[.int .i64 0, .int .i64 0, .int .i64 0] 43))); clear HL; have HL := HL2; clear HL2)); (try (have HM2 := Lib.hid (HM.out.below (Below.alloc (Below.refl _ _) (Nat.le_refl _) (.cells #[.int .i64 0, .int .i64 0, .int .i64 0] 43))); clear HM; have HM := HM2; clear HM2))
      clear hHeld
      refine hK.out _ _ ?_ (fun hHeld => ?_)
      · exact ⟨HS.out.ex0, HS.out.ex2⟩
      clear hK K
      (try simp only [Act.put, nA, nB, nC])
      refine wpAnyM_oneS 7 rfl (by kernel_rfl) (fun K hK => ?_)
      go_simp
      (refine (AC.out _ HS.out.cell HS.out.free).mono ?_); rintro e w7 ⟨rfl, hu⟩; have hcl := HS.out.cell; have hcb := HS.out.cb; have hlm := HS.out.lim; have HS2 := Lib.hid (HS.out.upd' hu); clear HS; have HS := HS2; clear HS2; (try (have HA2 := Lib.hid (And.intro (HA.out.1.upd hu (by have := HA.out.2; omega)) HA.out.2); clear HA; have HA := HA2; clear HA2)); (try (have HL2 := Lib.hid (HL.out.upd hcl hu); clear HL; have HL := HL2; clear HL2)); (try (have HM2 := Lib.hid (HM.out.upd hcl hu); clear HM; have HM := HM2; clear HM2)); clear hu hcl hcb hlm
      (try dsimp only)
      (try simp only [Act.put, nA, nB, nC])
      clear hHeld
      refine hK.out _ _ ?_ (fun hHeld => ?_)
      · exact ⟨HS.out.ex0, HS.out.ex2⟩
      clear hK K
      (try simp only [Act.put, nA, nB, nC])
      refine wpAnyM_oneS 11 rfl (by kernel_rfl) (fun K hK => ?_)
      go_simp
      (refine (GC.out _ HS.out.cell HS.out.free).mono ?_); rintro e w8 ⟨rfl, hu⟩; have hcl := HS.out.cell; have hcb := HS.out.cb; have hlm := HS.out.lim; have HS2 := Lib.hid (HS.out.upd' hu); clear HS; have HS := HS2; clear HS2; (try (have HA2 := Lib.hid (And.intro (HA.out.1.upd hu (by have := HA.out.2; omega)) HA.out.2); clear HA; have HA := HA2; clear HA2)); (try (have HL2 := Lib.hid (HL.out.upd hcl hu); clear HL; have HL := HL2; clear HL2)); (try (have HM2 := Lib.hid (HM.out.upd hcl hu); clear HM; have HM := HM2; clear HM2)); clear hu hcl hcb hlm
      (try dsimp only)
      (try simp only [Act.put, nA, nB, nC])
      clear hHeld
      refine hK.out _ _ ?_ (fun hHeld => ?_)
      · exact ⟨HS.out.ex0, HS.out.ex2⟩
      clear hK K
      (try simp only [Act.put, nA, nB, nC])
      refine wpAnyM_take 12 (v := ?_) rfl (by kernel_rfl) (fun _ _ _ h => h) (Or.inl ⟨by rfl, ?_⟩) (by assumption) ?_
      rotate_left
      · (intro wx hSw; refine Eq.trans (run_build_v3z (.tmp 41) (by rfl) (by rfl)) ?_; with_reducible rfl)
      (try simp only [Act.put, nA, nB, nC])
      refine wpAnyM_oneS 13 rfl (by kernel_rfl) (fun K hK => ?_)
      refine if_pos_of (by rfl) (wp_bslv3 (.tmp 31) (.tmp 37) (.tmp 42) rfl rfl rfl rfl ?_); have HT := Lib.hid (ts_sl3 HS.out (v3L VV AV (vc3 0 0 gv)) _ (by first | (simp; rfl) | rfl)); clear HS; have HS := Lib.hid HT.out.1; have HL := Lib.hid HT.out.2; clear HT; (try (have HA2 := Lib.hid (And.intro (HA.out.1.alloc (.cells (arrv 9 (sideV (v3L VV AV (vc3 0 0 gv)))) 43)) HA.out.2); clear HA; have HA := HA2; clear HA2))
      clear hHeld
      refine hK.out _ _ ?_ (fun hHeld => ?_)
      · exact ⟨HS.out.ex0, HS.out.ex2⟩
      clear hK K
      (try simp only [Act.put, nA, nB, nC])
      refine wpAnyM_oneS 14 rfl (by kernel_rfl) (fun K hK => ?_)
      go_simp
      (refine (NC.out _ _ HS.out.cell HS.out.free HL.out).mono ?_); rintro e w9 ⟨rfl, hu⟩; clear HL; have hcl := HS.out.cell; have hcb := HS.out.cb; have hlm := HS.out.lim; have HS2 := Lib.hid (HS.out.upd' hu); clear HS; have HS := HS2; clear HS2; (try (have HA2 := Lib.hid (And.intro (HA.out.1.upd hu (by have := HA.out.2; omega)) HA.out.2); clear HA; have HA := HA2; clear HA2)); (try (have HL2 := Lib.hid (HL.out.upd hcl hu); clear HL; have HL := HL2; clear HL2)); (try (have HM2 := Lib.hid (HM.out.upd hcl hu); clear HM; have HM := HM2; clear HM2)); clear hu hcl hcb hlm
      (try dsimp only)
      (try simp only [Act.put, nA, nB, nC])
      clear hHeld
      refine hK.out _ _ ?_ (fun hHeld => ?_)
      · exact ⟨HS.out.ex0, HS.out.ex2⟩
      clear hK K
      (try simp only [Act.put, nA, nB, nC])
      refine wpAnyM_one 16 rfl (by kernel_rfl) (fun K hK => ?_)
      refine if_pos_of rfl ?_; refine wp_of_run (run_store_row 43 (.tmp 10) (.tmp 44) rfl _ rfl rfl HA.out.1 iv3) ?_
      refine hK.out _ _ (.inl (by kernel_rfl)) (fun _ => ?_)
      clear hK K
      (try simp only [Act.put, nA, nB, nC])
      refine wpAnyM_done (by kernel_rfl) ?_ _
      (go_wp2_with fail; go_meet; exact ⟨_, rfl, Lib.hid (HS.out.put HA.out.1 HA.out.2 NN)⟩)
  case rest =>
  obtain ⟨nb, rfl, HB⟩ := hcut
  clear HS AC GC NC
  have d0 := HB.out.ex3.cell (i := 0) (by decide)
  rw [HDT.out] at d0
  go_upto_region 7 with (go_at_call 25; (refine (FC.out _ HB.out.cell HB.out.free).mono ?_); rintro e w10 ⟨rfl, hu⟩; have HT := Lib.hid (HB.out.upd' hu); clear hu FC d0 HB)
  have HS := Lib.hid HT.out.drew
  clear HT
  (try simp only [Act.put])
  go_cut [12] from 49 to 61 (fun s12 wx => ∃ b, s12 = .pointer (some ⟨b, 0, none⟩) ∧ Hid (TsR c Hb KS I [⟨b, 43, 3, YY⟩, ⟨nb, 43, 3, NN⟩, ⟨vb, 43, 3, VV⟩, ⟨qb, 42, 4, QU⟩, ⟨pb, 94, 20, PP⟩] (b + 1) w wx))
  case first =>
    refine wp_region_M (fun w' => Blk w' w.heap.size 32 24 KS ∧ Blk w' vb 43 3 VV ∧ Blk w' nb 43 3 NN) 14 (by kernel_rfl) ?_ (fun hHeld => ?_)
    · exact ⟨HS.out.s, HS.out.ex1, HS.out.ex0⟩
    refine wpAnyM_take 0 (v := ?_) rfl (by kernel_rfl) (fun _ _ _ h => h) (Or.inl ⟨by rfl, ?_⟩) (by assumption) ?_
    rotate_left
    · (intro wx hSw; (try dsimp only at hSw); go_simp; (try with_reducible rfl))
    (try simp only [Act.put, nA, nB, nC])
    refine wpAnyM_take 1 (v := ?_) rfl (by kernel_rfl) (fun _ _ _ h => h) (Or.inl ⟨by rfl, ?_⟩) (by assumption) ?_
    rotate_left
    · (intro wx hSw; refine Eq.trans (run_load_row 32 (.tmp 4) (by rfl) (w.heap.size) (by rfl) _ _ _ _ (hSw.1) Try.underlying32 rfl (ist.trans (by rw [arrv_size]))) ?_; with_reducible rfl)
    (try simp only [Act.put, nA, nB, nC])
    refine wpAnyM_take 3 (v := ?_) rfl (by kernel_rfl) (fun _ _ _ h => h) (Or.inl ⟨by rfl, ?_⟩) (by assumption) ?_
    rotate_left
    · (intro wx hSw; (try dsimp only at hSw); go_simp; (try with_reducible rfl))
    (try simp only [Act.put, nA, nB, nC])
    refine wpAnyM_take 4 (v := ?_) rfl (by kernel_rfl) (fun _ _ _ h => h) (Or.inl ⟨by rfl, ?_⟩) (by assumption) ?_
    rotate_left
    · (intro wx hSw; (try dsimp only at hSw); go_simp; (try with_reducible rfl))
    (try simp only [Act.put, nA, nB, nC])
    refine wpAnyM_take 5 (v := ?_) rfl (by kernel_rfl) (fun _ _ _ h => h) (Or.inl ⟨by rfl, ?_⟩) (by assumption) ?_
    rotate_left
    · (intro wx hSw; refine Eq.trans (run_load_row 43 (.tmp 9) (by rfl) (vb) (by rfl) _ _ _ _ (hSw.2.1) Try.underlying43 rfl (iv3.trans (by rw [arrv_size]))) ?_; with_reducible rfl)
    (try simp only [Act.put, nA, nB, nC])
    refine wpAnyM_take 6 (v := ?_) rfl (by kernel_rfl) (fun _ _ _ h => h) (Or.inl ⟨by rfl, ?_⟩) (by assumption) ?_
    rotate_left
    · (intro wx hSw; refine Eq.trans (run_load_row 43 (.tmp 10) (by rfl) (nb) (by rfl) _ _ _ _ (hSw.2.2) Try.underlying43 rfl (iv3.trans (by rw [arrv_size]))) ?_; with_reducible rfl)
    (try simp only [Act.put, nA, nB, nC])
    refine wpAnyM_take 9 (v := ?_) rfl (by kernel_rfl) (fun _ _ _ h => h) (Or.inl ⟨by rfl, ?_⟩) (by assumption) ?_
    rotate_left
    · (intro wx hSw; (try dsimp only at hSw); go_simp; (try with_reducible rfl))
    (try simp only [Act.put, nA, nB, nC])
    refine wpAnyM_threeS 2 7 13 rfl rfl rfl (by kernel_rfl) (fun K hK => ?_) (fun K hK => ?_) (fun K hK => ?_)
    · go_simp
      (refine (part_any KS 7 _ (by decide) (by decide)).mono ?_); (rw [HV.out.2]); rintro e w11 ⟨rfl, hb⟩; have HS2 := Lib.hid (HS.out.down hb); clear HS; have HS := HS2; clear HS2; (try (have HA2 := Lib.hid (And.intro (HA.out.1.below hb) HA.out.2); clear HA; have HA := HA2; clear HA2)); (try (have HL2 := Lib.hid (HL.out.below hb); clear HL; have HL := HL2; clear HL2)); (try (have HM2 := Lib.hid (HM.out.below hb); clear HM; have HM := HM2; clear HM2)); clear hb
      (try dsimp only)
      (try simp only [Act.put, nA, nB, nC])
      clear hHeld
      refine hK.out _ _ ?_ (fun hHeld => ?_)
      · exact ⟨HS.out.s, HS.out.ex1, HS.out.ex0⟩
      clear hK K
      (try simp only [Act.put, nA, nB, nC])
      refine wpAnyM_twoS 7 13 rfl rfl (by kernel_rfl) (fun K hK => ?_) (fun K hK => ?_)
      · refine if_pos_of (by rfl) (wp_bslv2 (.tmp 54) (.tmp 55) rfl rfl rfl ?_); have HT := Lib.hid (ts_sl2 HS.out (v2L VV NN) _ (by first | (simp; rfl) | rfl)); clear HS; have HS := Lib.hid HT.out.1; have HL := Lib.hid HT.out.2; clear HT; (try (have HA2 := Lib.hid (And.intro (HA.out.1.alloc (.cells (arrv 6 (sideV (v2L VV NN))) 43)) HA.out.2); clear HA; have HA := HA2; clear HA2))
        clear hHeld
        refine hK.out _ _ ?_ (fun hHeld => ?_)
        · exact ⟨HS.out.s, HS.out.ex1, HS.out.ex0⟩
        clear hK K
        (try simp only [Act.put, nA, nB, nC])
        refine wpAnyM_twoS 8 13 rfl rfl (by kernel_rfl) (fun K hK => ?_) (fun K hK => ?_)
        · go_simp
          (refine (MC.out _ _ HS.out.cell HS.out.free HL.out).mono ?_); rintro e w12 ⟨rfl, hu⟩; clear HL; have hcl := HS.out.cell; have hcb := HS.out.cb; have hlm := HS.out.lim; have HS2 := Lib.hid (HS.out.upd' hu); clear HS; have HS := HS2; clear HS2; (try (have HA2 := Lib.hid (And.intro (HA.out.1.upd hu (by have := HA.out.2; omega)) HA.out.2); clear HA; have HA := HA2; clear HA2)); (try (have HL2 := Lib.hid (HL.out.upd hcl hu); clear HL; have HL := HL2; clear HL2)); (try (have HM2 := Lib.hid (HM.out.upd hcl hu); clear HM; have HM := HM2; clear HM2)); clear hu hcl hcb hlm
          (try dsimp only)
          (try simp only [Act.put, nA, nB, nC])
          clear hHeld
          refine hK.out _ _ ?_ (fun hHeld => ?_)
          · exact ⟨HS.out.s, HS.out.ex1, HS.out.ex0⟩
          clear hK K
          (try simp only [Act.put, nA, nB, nC])
          refine wpAnyM_twoS 10 13 rfl rfl (by kernel_rfl) (fun K hK => ?_) (fun K hK => ?_)
          · go_simp
            (refine (LC.out _ HS.out.cell HS.out.free).mono ?_); rintro e w13 ⟨rfl, hu⟩; have hcl := HS.out.cell; have hcb := HS.out.cb; have hlm := HS.out.lim; have HS2 := Lib.hid (HS.out.upd' hu); clear HS; have HS := HS2; clear HS2; (try (have HA2 := Lib.hid (And.intro (HA.out.1.upd hu (by have := HA.out.2; omega)) HA.out.2); clear HA; have HA := HA2; clear HA2)); (try (have HL2 := Lib.hid (HL.out.upd hcl hu); clear HL; have HL := HL2; clear HL2)); (try (have HM2 := Lib.hid (HM.out.upd hcl hu); clear HM; have HM := HM2; clear HM2)); clear hu hcl hcb hlm
            (try dsimp only)
            (try simp only [Act.put, nA, nB, nC])
            clear hHeld
            refine hK.out _ _ ?_ (fun hHeld => ?_)
            · exact ⟨HS.out.s, HS.out.ex1, HS.out.ex0⟩
            clear hK K
            (try simp only [Act.put, nA, nB, nC])
            refine wpAnyM_twoS 11 13 rfl rfl (by kernel_rfl) (fun K hK => ?_) (fun K hK => ?_)
            · refine if_pos_of (by rfl) (wp_bslv2 (.tmp 51) (.tmp 59) rfl rfl rfl ?_); have HT := Lib.hid (ts_sl2 HS.out (v2L XX LL) _ (by first | (simp; rfl) | rfl)); clear HS; have HS := Lib.hid HT.out.1; have HM := Lib.hid HT.out.2; clear HT; (try (have HA2 := Lib.hid (And.intro (HA.out.1.alloc (.cells (arrv 6 (sideV (v2L XX LL))) 43)) HA.out.2); clear HA; have HA := HA2; clear HA2))
              clear hHeld
              refine hK.out _ _ ?_ (fun hHeld => ?_)
              · exact ⟨HS.out.s, HS.out.ex1, HS.out.ex0⟩
              clear hK K
              (try simp only [Act.put, nA, nB, nC])
              refine wpAnyM_twoS 12 13 rfl rfl (by kernel_rfl) (fun K hK => ?_) (fun K hK => ?_)
              · go_simp
                (refine (XC.out _ _ HS.out.cell HS.out.free HM.out).mono ?_); rintro e w14 ⟨rfl, hu⟩; clear HM; have hcl := HS.out.cell; have hcb := HS.out.cb; have hlm := HS.out.lim; have HS2 := Lib.hid (HS.out.upd' hu); clear HS; have HS := HS2; clear HS2; (try (have HA2 := Lib.hid (And.intro (HA.out.1.upd hu (by have := HA.out.2; omega)) HA.out.2); clear HA; have HA := HA2; clear HA2)); (try (have HL2 := Lib.hid (HL.out.upd hcl hu); clear HL; have HL := HL2; clear HL2)); (try (have HM2 := Lib.hid (HM.out.upd hcl hu); clear HM; have HM := HM2; clear HM2)); clear hu hcl hcb hlm
                (try dsimp only)
                (try simp only [Act.put, nA, nB, nC])
                clear hHeld
                refine hK.out _ _ ?_ (fun hHeld => ?_)
                · exact ⟨HS.out.s, HS.out.ex1, HS.out.ex0⟩
                clear hK K
                (try simp only [Act.put, nA, nB, nC])
                refine wpAnyM_oneS 13 rfl (by kernel_rfl) (fun K hK => ?_)
                go_simp; have HA := Lib.hid (ts_new3 HS.out _ (by first | (simp; rfl) | rfl)); have HS2 := Lib.hid (HS.out.alloc (.cells #[.int .i64 0, .int .i64 0, .int .i64 0] 43)); clear HS; have HS := HS2; clear HS2; (try (have HL2 := Lib.hid (HL.out.below (Below.alloc (Below.refl _ _) (Nat.le_refl _) (.cells #[.int .i64 0, .int .i64 0, .int .i64 0] 43))); clear HL; have HL := HL2; clear HL2)); (try (have HM2 := Lib.hid (HM.out.below (Below.alloc (Below.refl _ _) (Nat.le_refl _) (.cells #[.int .i64 0, .int .i64 0, .int .i64 0] 43))); clear HM; have HM := HM2; clear HM2))
                clear hHeld
                refine hK.out _ _ ?_ (fun hHeld => ?_)
                · exact ⟨HS.out.s, HS.out.ex1, HS.out.ex0⟩
                clear hK K
                (try simp only [Act.put, nA, nB, nC])
                refine wpAnyM_one 14 rfl (by kernel_rfl) (fun K hK => ?_)
                refine if_pos_of rfl ?_; refine wp_of_run (run_store_row 43 (.tmp 12) (.tmp 61) rfl _ rfl rfl HA.out.1 iv3) ?_
                refine hK.out _ _ (.inl (by kernel_rfl)) (fun _ => ?_)
                clear hK K
                (try simp only [Act.put, nA, nB, nC])
                refine wpAnyM_done (by kernel_rfl) ?_ _
                (go_wp2_with fail; go_meet; exact ⟨_, rfl, Lib.hid (HS.out.put HA.out.1 HA.out.2 YY)⟩)
              · go_simp; have HA := Lib.hid (ts_new3 HS.out _ (by first | (simp; rfl) | rfl)); have HS2 := Lib.hid (HS.out.alloc (.cells #[.int .i64 0, .int .i64 0, .int .i64 0] 43)); clear HS; have HS := HS2; clear HS2; (try (have HL2 := Lib.hid (HL.out.below (Below.alloc (Below.refl _ _) (Nat.le_refl _) (.cells #[.int .i64 0, .int .i64 0, .int .i64 0] 43))); clear HL; have HL := HL2; clear HL2)); (try (have HM2 := Lib.hid (HM.out.below (Below.alloc (Below.refl _ _) (Nat.le_refl _) (.cells #[.int .i64 0, .int .i64 0, .int .i64 0] 43))); clear HM; have HM := HM2; clear HM2))
                clear hHeld
                refine hK.out _ _ ?_ (fun hHeld => ?_)
                · exact ⟨HS.out.s, HS.out.ex1, HS.out.ex0⟩
                clear hK K
                (try simp only [Act.put, nA, nB, nC])
                refine wpAnyM_oneS 12 rfl (by kernel_rfl) (fun K hK => ?_)
                go_simp
                (refine (XC.out _ _ HS.out.cell HS.out.free HM.out).mono ?_); rintro e w14 ⟨rfl, hu⟩; clear HM; have hcl := HS.out.cell; have hcb := HS.out.cb; have hlm := HS.out.lim; have HS2 := Lib.hid (HS.out.upd' hu); clear HS; have HS := HS2; clear HS2; (try (have HA2 := Lib.hid (And.intro (HA.out.1.upd hu (by have := HA.out.2; omega)) HA.out.2); clear HA; have HA := HA2; clear HA2)); (try (have HL2 := Lib.hid (HL.out.upd hcl hu); clear HL; have HL := HL2; clear HL2)); (try (have HM2 := Lib.hid (HM.out.upd hcl hu); clear HM; have HM := HM2; clear HM2)); clear hu hcl hcb hlm
                (try dsimp only)
                (try simp only [Act.put, nA, nB, nC])
                clear hHeld
                refine hK.out _ _ ?_ (fun hHeld => ?_)
                · exact ⟨HS.out.s, HS.out.ex1, HS.out.ex0⟩
                clear hK K
                (try simp only [Act.put, nA, nB, nC])
                refine wpAnyM_one 14 rfl (by kernel_rfl) (fun K hK => ?_)
                refine if_pos_of rfl ?_; refine wp_of_run (run_store_row 43 (.tmp 12) (.tmp 61) rfl _ rfl rfl HA.out.1 iv3) ?_
                refine hK.out _ _ (.inl (by kernel_rfl)) (fun _ => ?_)
                clear hK K
                (try simp only [Act.put, nA, nB, nC])
                refine wpAnyM_done (by kernel_rfl) ?_ _
                (go_wp2_with fail; go_meet; exact ⟨_, rfl, Lib.hid (HS.out.put HA.out.1 HA.out.2 YY)⟩)
            · go_simp; have HA := Lib.hid (ts_new3 HS.out _ (by first | (simp; rfl) | rfl)); have HS2 := Lib.hid (HS.out.alloc (.cells #[.int .i64 0, .int .i64 0, .int .i64 0] 43)); clear HS; have HS := HS2; clear HS2; (try (have HL2 := Lib.hid (HL.out.below (Below.alloc (Below.refl _ _) (Nat.le_refl _) (.cells #[.int .i64 0, .int .i64 0, .int .i64 0] 43))); clear HL; have HL := HL2; clear HL2)); (try (have HM2 := Lib.hid (HM.out.below (Below.alloc (Below.refl _ _) (Nat.le_refl _) (.cells #[.int .i64 0, .int .i64 0, .int .i64 0] 43))); clear HM; have HM := HM2; clear HM2))
              clear hHeld
              refine hK.out _ _ ?_ (fun hHeld => ?_)
              · exact ⟨HS.out.s, HS.out.ex1, HS.out.ex0⟩
              clear hK K
              (try simp only [Act.put, nA, nB, nC])
              refine wpAnyM_oneS 11 rfl (by kernel_rfl) (fun K hK => ?_)
              refine if_pos_of (by rfl) (wp_bslv2 (.tmp 51) (.tmp 59) rfl rfl rfl ?_); have HT := Lib.hid (ts_sl2 HS.out (v2L XX LL) _ (by first | (simp; rfl) | rfl)); clear HS; have HS := Lib.hid HT.out.1; have HM := Lib.hid HT.out.2; clear HT; (try (have HA2 := Lib.hid (And.intro (HA.out.1.alloc (.cells (arrv 6 (sideV (v2L XX LL))) 43)) HA.out.2); clear HA; have HA := HA2; clear HA2))
              clear hHeld
              refine hK.out _ _ ?_ (fun hHeld => ?_)
              · exact ⟨HS.out.s, HS.out.ex1, HS.out.ex0⟩
              clear hK K
              (try simp only [Act.put, nA, nB, nC])
              refine wpAnyM_oneS 12 rfl (by kernel_rfl) (fun K hK => ?_)
              go_simp
              (refine (XC.out _ _ HS.out.cell HS.out.free HM.out).mono ?_); rintro e w14 ⟨rfl, hu⟩; clear HM; have hcl := HS.out.cell; have hcb := HS.out.cb; have hlm := HS.out.lim; have HS2 := Lib.hid (HS.out.upd' hu); clear HS; have HS := HS2; clear HS2; (try (have HA2 := Lib.hid (And.intro (HA.out.1.upd hu (by have := HA.out.2; omega)) HA.out.2); clear HA; have HA := HA2; clear HA2)); (try (have HL2 := Lib.hid (HL.out.upd hcl hu); clear HL; have HL := HL2; clear HL2)); (try (have HM2 := Lib.hid (HM.out.upd hcl hu); clear HM; have HM := HM2; clear HM2)); clear hu hcl hcb hlm
              (try dsimp only)
              (try simp only [Act.put, nA, nB, nC])
              clear hHeld
              refine hK.out _ _ ?_ (fun hHeld => ?_)
              · exact ⟨HS.out.s, HS.out.ex1, HS.out.ex0⟩
              clear hK K
              (try simp only [Act.put, nA, nB, nC])
              refine wpAnyM_one 14 rfl (by kernel_rfl) (fun K hK => ?_)
              refine if_pos_of rfl ?_; refine wp_of_run (run_store_row 43 (.tmp 12) (.tmp 61) rfl _ rfl rfl HA.out.1 iv3) ?_
              refine hK.out _ _ (.inl (by kernel_rfl)) (fun _ => ?_)
              clear hK K
              (try simp only [Act.put, nA, nB, nC])
              refine wpAnyM_done (by kernel_rfl) ?_ _
              (go_wp2_with fail; go_meet; exact ⟨_, rfl, Lib.hid (HS.out.put HA.out.1 HA.out.2 YY)⟩)
          · go_simp; have HA := Lib.hid (ts_new3 HS.out _ (by first | (simp; rfl) | rfl)); have HS2 := Lib.hid (HS.out.alloc (.cells #[.int .i64 0, .int .i64 0, .int .i64 0] 43)); clear HS; have HS := HS2; clear HS2; (try (have HL2 := Lib.hid (HL.out.below (Below.alloc (Below.refl _ _) (Nat.le_refl _) (.cells #[.int .i64 0, .int .i64 0, .int .i64 0] 43))); clear HL; have HL := HL2; clear HL2)); (try (have HM2 := Lib.hid (HM.out.below (Below.alloc (Below.refl _ _) (Nat.le_refl _) (.cells #[.int .i64 0, .int .i64 0, .int .i64 0] 43))); clear HM; have HM := HM2; clear HM2))
            clear hHeld
            refine hK.out _ _ ?_ (fun hHeld => ?_)
            · exact ⟨HS.out.s, HS.out.ex1, HS.out.ex0⟩
            clear hK K
            (try simp only [Act.put, nA, nB, nC])
            refine wpAnyM_oneS 10 rfl (by kernel_rfl) (fun K hK => ?_)
            go_simp
            (refine (LC.out _ HS.out.cell HS.out.free).mono ?_); rintro e w13 ⟨rfl, hu⟩; have hcl := HS.out.cell; have hcb := HS.out.cb; have hlm := HS.out.lim; have HS2 := Lib.hid (HS.out.upd' hu); clear HS; have HS := HS2; clear HS2; (try (have HA2 := Lib.hid (And.intro (HA.out.1.upd hu (by have := HA.out.2; omega)) HA.out.2); clear HA; have HA := HA2; clear HA2)); (try (have HL2 := Lib.hid (HL.out.upd hcl hu); clear HL; have HL := HL2; clear HL2)); (try (have HM2 := Lib.hid (HM.out.upd hcl hu); clear HM; have HM := HM2; clear HM2)); clear hu hcl hcb hlm
            (try dsimp only)
            (try simp only [Act.put, nA, nB, nC])
            clear hHeld
            refine hK.out _ _ ?_ (fun hHeld => ?_)
            · exact ⟨HS.out.s, HS.out.ex1, HS.out.ex0⟩
            clear hK K
            (try simp only [Act.put, nA, nB, nC])
            refine wpAnyM_oneS 11 rfl (by kernel_rfl) (fun K hK => ?_)
            refine if_pos_of (by rfl) (wp_bslv2 (.tmp 51) (.tmp 59) rfl rfl rfl ?_); have HT := Lib.hid (ts_sl2 HS.out (v2L XX LL) _ (by first | (simp; rfl) | rfl)); clear HS; have HS := Lib.hid HT.out.1; have HM := Lib.hid HT.out.2; clear HT; (try (have HA2 := Lib.hid (And.intro (HA.out.1.alloc (.cells (arrv 6 (sideV (v2L XX LL))) 43)) HA.out.2); clear HA; have HA := HA2; clear HA2))
            clear hHeld
            refine hK.out _ _ ?_ (fun hHeld => ?_)
            · exact ⟨HS.out.s, HS.out.ex1, HS.out.ex0⟩
            clear hK K
            (try simp only [Act.put, nA, nB, nC])
            refine wpAnyM_oneS 12 rfl (by kernel_rfl) (fun K hK => ?_)
            go_simp
            (refine (XC.out _ _ HS.out.cell HS.out.free HM.out).mono ?_); rintro e w14 ⟨rfl, hu⟩; clear HM; have hcl := HS.out.cell; have hcb := HS.out.cb; have hlm := HS.out.lim; have HS2 := Lib.hid (HS.out.upd' hu); clear HS; have HS := HS2; clear HS2; (try (have HA2 := Lib.hid (And.intro (HA.out.1.upd hu (by have := HA.out.2; omega)) HA.out.2); clear HA; have HA := HA2; clear HA2)); (try (have HL2 := Lib.hid (HL.out.upd hcl hu); clear HL; have HL := HL2; clear HL2)); (try (have HM2 := Lib.hid (HM.out.upd hcl hu); clear HM; have HM := HM2; clear HM2)); clear hu hcl hcb hlm
            (try dsimp only)
            (try simp only [Act.put, nA, nB, nC])
            clear hHeld
            refine hK.out _ _ ?_ (fun hHeld => ?_)
            · exact ⟨HS.out.s, HS.out.ex1, HS.out.ex0⟩
            clear hK K
            (try simp only [Act.put, nA, nB, nC])
            refine wpAnyM_one 14 rfl (by kernel_rfl) (fun K hK => ?_)
            refine if_pos_of rfl ?_; refine wp_of_run (run_store_row 43 (.tmp 12) (.tmp 61) rfl _ rfl rfl HA.out.1 iv3) ?_
            refine hK.out _ _ (.inl (by kernel_rfl)) (fun _ => ?_)
            clear hK K
            (try simp only [Act.put, nA, nB, nC])
            refine wpAnyM_done (by kernel_rfl) ?_ _
            (go_wp2_with fail; go_meet; exact ⟨_, rfl, Lib.hid (HS.out.put HA.out.1 HA.out.2 YY)⟩)
        · go_simp; have HA := Lib.hid (ts_new3 HS.out _ (by first | (simp; rfl) | rfl)); have HS2 := Lib.hid (HS.out.alloc (.cells #[.int .i64 0, .int .i64 0, .int .i64 0] 43)); clear HS; have HS := HS2; clear HS2; (try (have HL2 := Lib.hid (HL.out.below (Below.alloc (Below.refl _ _) (Nat.le_refl _) (.cells #[.int .i64 0, .int .i64 0, .int .i64 0] 43))); clear HL; have HL := HL2; clear HL2)); (try (have HM2 := Lib.hid (HM.out.below (Below.alloc (Below.refl _ _) (Nat.le_refl _) (.cells #[.int .i64 0, .int .i64 0, .int .i64 0] 43))); clear HM; have HM := HM2; clear HM2))
          clear hHeld
          refine hK.out _ _ ?_ (fun hHeld => ?_)
          · exact ⟨HS.out.s, HS.out.ex1, HS.out.ex0⟩
          clear hK K
          (try simp only [Act.put, nA, nB, nC])
          refine wpAnyM_oneS 8 rfl (by kernel_rfl) (fun K hK => ?_)
          go_simp
          (refine (MC.out _ _ HS.out.cell HS.out.free HL.out).mono ?_); rintro e w12 ⟨rfl, hu⟩; clear HL; have hcl := HS.out.cell; have hcb := HS.out.cb; have hlm := HS.out.lim; have HS2 := Lib.hid (HS.out.upd' hu); clear HS; have HS := HS2; clear HS2; (try (have HA2 := Lib.hid (And.intro (HA.out.1.upd hu (by have := HA.out.2; omega)) HA.out.2); clear HA; have HA := HA2; clear HA2)); (try (have HL2 := Lib.hid (HL.out.upd hcl hu); clear HL; have HL := HL2; clear HL2)); (try (have HM2 := Lib.hid (HM.out.upd hcl hu); clear HM; have HM := HM2; clear HM2)); clear hu hcl hcb hlm
          (try dsimp only)
          (try simp only [Act.put, nA, nB, nC])
          clear hHeld
          refine hK.out _ _ ?_ (fun hHeld => ?_)
          · exact ⟨HS.out.s, HS.out.ex1, HS.out.ex0⟩
          clear hK K
          (try simp only [Act.put, nA, nB, nC])
          refine wpAnyM_oneS 10 rfl (by kernel_rfl) (fun K hK => ?_)
          go_simp
          (refine (LC.out _ HS.out.cell HS.out.free).mono ?_); rintro e w13 ⟨rfl, hu⟩; have hcl := HS.out.cell; have hcb := HS.out.cb; have hlm := HS.out.lim; have HS2 := Lib.hid (HS.out.upd' hu); clear HS; have HS := HS2; clear HS2; (try (have HA2 := Lib.hid (And.intro (HA.out.1.upd hu (by have := HA.out.2; omega)) HA.out.2); clear HA; have HA := HA2; clear HA2)); (try (have HL2 := Lib.hid (HL.out.upd hcl hu); clear HL; have HL := HL2; clear HL2)); (try (have HM2 := Lib.hid (HM.out.upd hcl hu); clear HM; have HM := HM2; clear HM2)); clear hu hcl hcb hlm
          (try dsimp only)
          (try simp only [Act.put, nA, nB, nC])
          clear hHeld
          refine hK.out _ _ ?_ (fun hHeld => ?_)
          · exact ⟨HS.out.s, HS.out.ex1, HS.out.ex0⟩
          clear hK K
          (try simp only [Act.put, nA, nB, nC])
          refine wpAnyM_oneS 11 rfl (by kernel_rfl) (fun K hK => ?_)
          refine if_pos_of (by rfl) (wp_bslv2 (.tmp 51) (.tmp 59) rfl rfl rfl ?_); have HT := Lib.hid (ts_sl2 HS.out (v2L XX LL) _ (by first | (simp; rfl) | rfl)); clear HS; have HS := Lib.hid HT.out.1; have HM := Lib.hid HT.out.2; clear HT; (try (have HA2 := Lib.hid (And.intro (HA.out.1.alloc (.cells (arrv 6 (sideV (v2L XX LL))) 43)) HA.out.2); clear HA; have HA := HA2; clear HA2))
          clear hHeld
          refine hK.out _ _ ?_ (fun hHeld => ?_)
          · exact ⟨HS.out.s, HS.out.ex1, HS.out.ex0⟩
          clear hK K
          (try simp only [Act.put, nA, nB, nC])
          refine wpAnyM_oneS 12 rfl (by kernel_rfl) (fun K hK => ?_)
          go_simp
          (refine (XC.out _ _ HS.out.cell HS.out.free HM.out).mono ?_); rintro e w14 ⟨rfl, hu⟩; clear HM; have hcl := HS.out.cell; have hcb := HS.out.cb; have hlm := HS.out.lim; have HS2 := Lib.hid (HS.out.upd' hu); clear HS; have HS := HS2; clear HS2; (try (have HA2 := Lib.hid (And.intro (HA.out.1.upd hu (by have := HA.out.2; omega)) HA.out.2); clear HA; have HA := HA2; clear HA2)); (try (have HL2 := Lib.hid (HL.out.upd hcl hu); clear HL; have HL := HL2; clear HL2)); (try (have HM2 := Lib.hid (HM.out.upd hcl hu); clear HM; have HM := HM2; clear HM2)); clear hu hcl hcb hlm
          (try dsimp only)
          (try simp only [Act.put, nA, nB, nC])
          clear hHeld
          refine hK.out _ _ ?_ (fun hHeld => ?_)
          · exact ⟨HS.out.s, HS.out.ex1, HS.out.ex0⟩
          clear hK K
          (try simp only [Act.put, nA, nB, nC])
          refine wpAnyM_one 14 rfl (by kernel_rfl) (fun K hK => ?_)
          refine if_pos_of rfl ?_; refine wp_of_run (run_store_row 43 (.tmp 12) (.tmp 61) rfl _ rfl rfl HA.out.1 iv3) ?_
          refine hK.out _ _ (.inl (by kernel_rfl)) (fun _ => ?_)
          clear hK K
          (try simp only [Act.put, nA, nB, nC])
          refine wpAnyM_done (by kernel_rfl) ?_ _
          (go_wp2_with fail; go_meet; exact ⟨_, rfl, Lib.hid (HS.out.put HA.out.1 HA.out.2 YY)⟩)
      · go_simp; have HA := Lib.hid (ts_new3 HS.out _ (by first | (simp; rfl) | rfl)); have HS2 := Lib.hid (HS.out.alloc (.cells #[.int .i64 0, .int .i64 0, .int .i64 0] 43)); clear HS; have HS := HS2; clear HS2; (try (have HL2 := Lib.hid (HL.out.below (Below.alloc (Below.refl _ _) (Nat.le_refl _) (.cells #[.int .i64 0, .int .i64 0, .int .i64 0] 43))); clear HL; have HL := HL2; clear HL2)); (try (have HM2 := Lib.hid (HM.out.below (Below.alloc (Below.refl _ _) (Nat.le_refl _) (.cells #[.int .i64 0, .int .i64 0, .int .i64 0] 43))); clear HM; have HM := HM2; clear HM2))
        clear hHeld
        refine hK.out _ _ ?_ (fun hHeld => ?_)
        · exact ⟨HS.out.s, HS.out.ex1, HS.out.ex0⟩
        clear hK K
        (try simp only [Act.put, nA, nB, nC])
        refine wpAnyM_oneS 7 rfl (by kernel_rfl) (fun K hK => ?_)
        refine if_pos_of (by rfl) (wp_bslv2 (.tmp 54) (.tmp 55) rfl rfl rfl ?_); have HT := Lib.hid (ts_sl2 HS.out (v2L VV NN) _ (by first | (simp; rfl) | rfl)); clear HS; have HS := Lib.hid HT.out.1; have HL := Lib.hid HT.out.2; clear HT; (try (have HA2 := Lib.hid (And.intro (HA.out.1.alloc (.cells (arrv 6 (sideV (v2L VV NN))) 43)) HA.out.2); clear HA; have HA := HA2; clear HA2))
        clear hHeld
        refine hK.out _ _ ?_ (fun hHeld => ?_)
        · exact ⟨HS.out.s, HS.out.ex1, HS.out.ex0⟩
        clear hK K
        (try simp only [Act.put, nA, nB, nC])
        refine wpAnyM_oneS 8 rfl (by kernel_rfl) (fun K hK => ?_)
        go_simp
        (refine (MC.out _ _ HS.out.cell HS.out.free HL.out).mono ?_); rintro e w12 ⟨rfl, hu⟩; clear HL; have hcl := HS.out.cell; have hcb := HS.out.cb; have hlm := HS.out.lim; have HS2 := Lib.hid (HS.out.upd' hu); clear HS; have HS := HS2; clear HS2; (try (have HA2 := Lib.hid (And.intro (HA.out.1.upd hu (by have := HA.out.2; omega)) HA.out.2); clear HA; have HA := HA2; clear HA2)); (try (have HL2 := Lib.hid (HL.out.upd hcl hu); clear HL; have HL := HL2; clear HL2)); (try (have HM2 := Lib.hid (HM.out.upd hcl hu); clear HM; have HM := HM2; clear HM2)); clear hu hcl hcb hlm
        (try dsimp only)
        (try simp only [Act.put, nA, nB, nC])
        clear hHeld
        refine hK.out _ _ ?_ (fun hHeld => ?_)
        · exact ⟨HS.out.s, HS.out.ex1, HS.out.ex0⟩
        clear hK K
        (try simp only [Act.put, nA, nB, nC])
        refine wpAnyM_oneS 10 rfl (by kernel_rfl) (fun K hK => ?_)
        go_simp
        (refine (LC.out _ HS.out.cell HS.out.free).mono ?_); rintro e w13 ⟨rfl, hu⟩; have hcl := HS.out.cell; have hcb := HS.out.cb; have hlm := HS.out.lim; have HS2 := Lib.hid (HS.out.upd' hu); clear HS; have HS := HS2; clear HS2; (try (have HA2 := Lib.hid (And.intro (HA.out.1.upd hu (by have := HA.out.2; omega)) HA.out.2); clear HA; have HA := HA2; clear HA2)); (try (have HL2 := Lib.hid (HL.out.upd hcl hu); clear HL; have HL := HL2; clear HL2)); (try (have HM2 := Lib.hid (HM.out.upd hcl hu); clear HM; have HM := HM2; clear HM2)); clear hu hcl hcb hlm
        (try dsimp only)
        (try simp only [Act.put, nA, nB, nC])
        clear hHeld
        refine hK.out _ _ ?_ (fun hHeld => ?_)
        · exact ⟨HS.out.s, HS.out.ex1, HS.out.ex0⟩
        clear hK K
        (try simp only [Act.put, nA, nB, nC])
        refine wpAnyM_oneS 11 rfl (by kernel_rfl) (fun K hK => ?_)
        refine if_pos_of (by rfl) (wp_bslv2 (.tmp 51) (.tmp 59) rfl rfl rfl ?_); have HT := Lib.hid (ts_sl2 HS.out (v2L XX LL) _ (by first | (simp; rfl) | rfl)); clear HS; have HS := Lib.hid HT.out.1; have HM := Lib.hid HT.out.2; clear HT; (try (have HA2 := Lib.hid (And.intro (HA.out.1.alloc (.cells (arrv 6 (sideV (v2L XX LL))) 43)) HA.out.2); clear HA; have HA := HA2; clear HA2))
        clear hHeld
        refine hK.out _ _ ?_ (fun hHeld => ?_)
        · exact ⟨HS.out.s, HS.out.ex1, HS.out.ex0⟩
        clear hK K
        (try simp only [Act.put, nA, nB, nC])
        refine wpAnyM_oneS 12 rfl (by kernel_rfl) (fun K hK => ?_)
        go_simp
        (refine (XC.out _ _ HS.out.cell HS.out.free HM.out).mono ?_); rintro e w14 ⟨rfl, hu⟩; clear HM; have hcl := HS.out.cell; have hcb := HS.out.cb; have hlm := HS.out.lim; have HS2 := Lib.hid (HS.out.upd' hu); clear HS; have HS := HS2; clear HS2; (try (have HA2 := Lib.hid (And.intro (HA.out.1.upd hu (by have := HA.out.2; omega)) HA.out.2); clear HA; have HA := HA2; clear HA2)); (try (have HL2 := Lib.hid (HL.out.upd hcl hu); clear HL; have HL := HL2; clear HL2)); (try (have HM2 := Lib.hid (HM.out.upd hcl hu); clear HM; have HM := HM2; clear HM2)); clear hu hcl hcb hlm
        (try dsimp only)
        (try simp only [Act.put, nA, nB, nC])
        clear hHeld
        refine hK.out _ _ ?_ (fun hHeld => ?_)
        · exact ⟨HS.out.s, HS.out.ex1, HS.out.ex0⟩
        clear hK K
        (try simp only [Act.put, nA, nB, nC])
        refine wpAnyM_one 14 rfl (by kernel_rfl) (fun K hK => ?_)
        refine if_pos_of rfl ?_; refine wp_of_run (run_store_row 43 (.tmp 12) (.tmp 61) rfl _ rfl rfl HA.out.1 iv3) ?_
        refine hK.out _ _ (.inl (by kernel_rfl)) (fun _ => ?_)
        clear hK K
        (try simp only [Act.put, nA, nB, nC])
        refine wpAnyM_done (by kernel_rfl) ?_ _
        (go_wp2_with fail; go_meet; exact ⟨_, rfl, Lib.hid (HS.out.put HA.out.1 HA.out.2 YY)⟩)
    · refine if_pos_of (by rfl) (wp_bslv2 (.tmp 54) (.tmp 55) rfl rfl rfl ?_); have HT := Lib.hid (ts_sl2 HS.out (v2L VV NN) _ (by first | (simp; rfl) | rfl)); clear HS; have HS := Lib.hid HT.out.1; have HL := Lib.hid HT.out.2; clear HT; (try (have HA2 := Lib.hid (And.intro (HA.out.1.alloc (.cells (arrv 6 (sideV (v2L VV NN))) 43)) HA.out.2); clear HA; have HA := HA2; clear HA2))
      clear hHeld
      refine hK.out _ _ ?_ (fun hHeld => ?_)
      · exact ⟨HS.out.s, HS.out.ex1, HS.out.ex0⟩
      clear hK K
      (try simp only [Act.put, nA, nB, nC])
      refine wpAnyM_twoS 2 13 rfl rfl (by kernel_rfl) (fun K hK => ?_) (fun K hK => ?_)
      · go_simp
        (refine (part_any KS 7 _ (by decide) (by decide)).mono ?_); (rw [HV.out.2]); rintro e w11 ⟨rfl, hb⟩; have HS2 := Lib.hid (HS.out.down hb); clear HS; have HS := HS2; clear HS2; (try (have HA2 := Lib.hid (And.intro (HA.out.1.below hb) HA.out.2); clear HA; have HA := HA2; clear HA2)); (try (have HL2 := Lib.hid (HL.out.below hb); clear HL; have HL := HL2; clear HL2)); (try (have HM2 := Lib.hid (HM.out.below hb); clear HM; have HM := HM2; clear HM2)); clear hb
        (try dsimp only)
        (try simp only [Act.put, nA, nB, nC])
        clear hHeld
        refine hK.out _ _ ?_ (fun hHeld => ?_)
        · exact ⟨HS.out.s, HS.out.ex1, HS.out.ex0⟩
        clear hK K
        (try simp only [Act.put, nA, nB, nC])
        refine wpAnyM_twoS 8 13 rfl rfl (by kernel_rfl) (fun K hK => ?_) (fun K hK => ?_)
        · go_simp
          (refine (MC.out _ _ HS.out.cell HS.out.free HL.out).mono ?_); rintro e w12 ⟨rfl, hu⟩; clear HL; have hcl := HS.out.cell; have hcb := HS.out.cb; have hlm := HS.out.lim; have HS2 := Lib.hid (HS.out.upd' hu); clear HS; have HS := HS2; clear HS2; (try (have HA2 := Lib.hid (And.intro (HA.out.1.upd hu (by have := HA.out.2; omega)) HA.out.2); clear HA; have HA := HA2; clear HA2)); (try (have HL2 := Lib.hid (HL.out.upd hcl hu); clear HL; have HL := HL2; clear HL2)); (try (have HM2 := Lib.hid (HM.out.upd hcl hu); clear HM; have HM := HM2; clear HM2)); clear hu hcl hcb hlm
          (try dsimp only)
          (try simp only [Act.put, nA, nB, nC])
          clear hHeld
          refine hK.out _ _ ?_ (fun hHeld => ?_)
          · exact ⟨HS.out.s, HS.out.ex1, HS.out.ex0⟩
          clear hK K
          (try simp only [Act.put, nA, nB, nC])
          refine wpAnyM_twoS 10 13 rfl rfl (by kernel_rfl) (fun K hK => ?_) (fun K hK => ?_)
          · go_simp
            (refine (LC.out _ HS.out.cell HS.out.free).mono ?_); rintro e w13 ⟨rfl, hu⟩; have hcl := HS.out.cell; have hcb := HS.out.cb; have hlm := HS.out.lim; have HS2 := Lib.hid (HS.out.upd' hu); clear HS; have HS := HS2; clear HS2; (try (have HA2 := Lib.hid (And.intro (HA.out.1.upd hu (by have := HA.out.2; omega)) HA.out.2); clear HA; have HA := HA2; clear HA2)); (try (have HL2 := Lib.hid (HL.out.upd hcl hu); clear HL; have HL := HL2; clear HL2)); (try (have HM2 := Lib.hid (HM.out.upd hcl hu); clear HM; have HM := HM2; clear HM2)); clear hu hcl hcb hlm
            (try dsimp only)
            (try simp only [Act.put, nA, nB, nC])
            clear hHeld
            refine hK.out _ _ ?_ (fun hHeld => ?_)
            · exact ⟨HS.out.s, HS.out.ex1, HS.out.ex0⟩
            clear hK K
            (try simp only [Act.put, nA, nB, nC])
            refine wpAnyM_twoS 11 13 rfl rfl (by kernel_rfl) (fun K hK => ?_) (fun K hK => ?_)
            · refine if_pos_of (by rfl) (wp_bslv2 (.tmp 51) (.tmp 59) rfl rfl rfl ?_); have HT := Lib.hid (ts_sl2 HS.out (v2L XX LL) _ (by first | (simp; rfl) | rfl)); clear HS; have HS := Lib.hid HT.out.1; have HM := Lib.hid HT.out.2; clear HT; (try (have HA2 := Lib.hid (And.intro (HA.out.1.alloc (.cells (arrv 6 (sideV (v2L XX LL))) 43)) HA.out.2); clear HA; have HA := HA2; clear HA2))
              clear hHeld
              refine hK.out _ _ ?_ (fun hHeld => ?_)
              · exact ⟨HS.out.s, HS.out.ex1, HS.out.ex0⟩
              clear hK K
              (try simp only [Act.put, nA, nB, nC])
              refine wpAnyM_twoS 12 13 rfl rfl (by kernel_rfl) (fun K hK => ?_) (fun K hK => ?_)
              · go_simp
                (refine (XC.out _ _ HS.out.cell HS.out.free HM.out).mono ?_); rintro e w14 ⟨rfl, hu⟩; clear HM; have hcl := HS.out.cell; have hcb := HS.out.cb; have hlm := HS.out.lim; have HS2 := Lib.hid (HS.out.upd' hu); clear HS; have HS := HS2; clear HS2; (try (have HA2 := Lib.hid (And.intro (HA.out.1.upd hu (by have := HA.out.2; omega)) HA.out.2); clear HA; have HA := HA2; clear HA2)); (try (have HL2 := Lib.hid (HL.out.upd hcl hu); clear HL; have HL := HL2; clear HL2)); (try (have HM2 := Lib.hid (HM.out.upd hcl hu); clear HM; have HM := HM2; clear HM2)); clear hu hcl hcb hlm
                (try dsimp only)
                (try simp only [Act.put, nA, nB, nC])
                clear hHeld
                refine hK.out _ _ ?_ (fun hHeld => ?_)
                · exact ⟨HS.out.s, HS.out.ex1, HS.out.ex0⟩
                clear hK K
                (try simp only [Act.put, nA, nB, nC])
                refine wpAnyM_oneS 13 rfl (by kernel_rfl) (fun K hK => ?_)
                go_simp; have HA := Lib.hid (ts_new3 HS.out _ (by first | (simp; rfl) | rfl)); have HS2 := Lib.hid (HS.out.alloc (.cells #[.int .i64 0, .int .i64 0, .int .i64 0] 43)); clear HS; have HS := HS2; clear HS2; (try (have HL2 := Lib.hid (HL.out.below (Below.alloc (Below.refl _ _) (Nat.le_refl _) (.cells #[.int .i64 0, .int .i64 0, .int .i64 0] 43))); clear HL; have HL := HL2; clear HL2)); (try (have HM2 := Lib.hid (HM.out.below (Below.alloc (Below.refl _ _) (Nat.le_refl _) (.cells #[.int .i64 0, .int .i64 0, .int .i64 0] 43))); clear HM; have HM := HM2; clear HM2))
                clear hHeld
                refine hK.out _ _ ?_ (fun hHeld => ?_)
                · exact ⟨HS.out.s, HS.out.ex1, HS.out.ex0⟩
                clear hK K
                (try simp only [Act.put, nA, nB, nC])
                refine wpAnyM_one 14 rfl (by kernel_rfl) (fun K hK => ?_)
                refine if_pos_of rfl ?_; refine wp_of_run (run_store_row 43 (.tmp 12) (.tmp 61) rfl _ rfl rfl HA.out.1 iv3) ?_
                refine hK.out _ _ (.inl (by kernel_rfl)) (fun _ => ?_)
                clear hK K
                (try simp only [Act.put, nA, nB, nC])
                refine wpAnyM_done (by kernel_rfl) ?_ _
                (go_wp2_with fail; go_meet; exact ⟨_, rfl, Lib.hid (HS.out.put HA.out.1 HA.out.2 YY)⟩)
              · go_simp; have HA := Lib.hid (ts_new3 HS.out _ (by first | (simp; rfl) | rfl)); have HS2 := Lib.hid (HS.out.alloc (.cells #[.int .i64 0, .int .i64 0, .int .i64 0] 43)); clear HS; have HS := HS2; clear HS2; (try (have HL2 := Lib.hid (HL.out.below (Below.alloc (Below.refl _ _) (Nat.le_refl _) (.cells #[.int .i64 0, .int .i64 0, .int .i64 0] 43))); clear HL; have HL := HL2; clear HL2)); (try (have HM2 := Lib.hid (HM.out.below (Below.alloc (Below.refl _ _) (Nat.le_refl _) (.cells #[.int .i64 0, .int .i64 0, .int .i64 0] 43))); clear HM; have HM := HM2; clear HM2))
                clear hHeld
                refine hK.out _ _ ?_ (fun hHeld => ?_)
                · exact ⟨HS.out.s, HS.out.ex1, HS.out.ex0⟩
                clear hK K
                (try simp only [Act.put, nA, nB, nC])
                refine wpAnyM_oneS 12 rfl (by kernel_rfl) (fun K hK => ?_)
                go_simp
                (refine (XC.out _ _ HS.out.cell HS.out.free HM.out).mono ?_); rintro e w14 ⟨rfl, hu⟩; clear HM; have hcl := HS.out.cell; have hcb := HS.out.cb; have hlm := HS.out.lim; have HS2 := Lib.hid (HS.out.upd' hu); clear HS; have HS := HS2; clear HS2; (try (have HA2 := Lib.hid (And.intro (HA.out.1.upd hu (by have := HA.out.2; omega)) HA.out.2); clear HA; have HA := HA2; clear HA2)); (try (have HL2 := Lib.hid (HL.out.upd hcl hu); clear HL; have HL := HL2; clear HL2)); (try (have HM2 := Lib.hid (HM.out.upd hcl hu); clear HM; have HM := HM2; clear HM2)); clear hu hcl hcb hlm
                (try dsimp only)
                (try simp only [Act.put, nA, nB, nC])
                clear hHeld
                refine hK.out _ _ ?_ (fun hHeld => ?_)
                · exact ⟨HS.out.s, HS.out.ex1, HS.out.ex0⟩
                clear hK K
                (try simp only [Act.put, nA, nB, nC])
                refine wpAnyM_one 14 rfl (by kernel_rfl) (fun K hK => ?_)
                refine if_pos_of rfl ?_; refine wp_of_run (run_store_row 43 (.tmp 12) (.tmp 61) rfl _ rfl rfl HA.out.1 iv3) ?_
                refine hK.out _ _ (.inl (by kernel_rfl)) (fun _ => ?_)
                clear hK K
                (try simp only [Act.put, nA, nB, nC])
                refine wpAnyM_done (by kernel_rfl) ?_ _
                (go_wp2_with fail; go_meet; exact ⟨_, rfl, Lib.hid (HS.out.put HA.out.1 HA.out.2 YY)⟩)
            · go_simp; have HA := Lib.hid (ts_new3 HS.out _ (by first | (simp; rfl) | rfl)); have HS2 := Lib.hid (HS.out.alloc (.cells #[.int .i64 0, .int .i64 0, .int .i64 0] 43)); clear HS; have HS := HS2; clear HS2; (try (have HL2 := Lib.hid (HL.out.below (Below.alloc (Below.refl _ _) (Nat.le_refl _) (.cells #[.int .i64 0, .int .i64 0, .int .i64 0] 43))); clear HL; have HL := HL2; clear HL2)); (try (have HM2 := Lib.hid (HM.out.below (Below.alloc (Below.refl _ _) (Nat.le_refl _) (.cells #[.int .i64 0, .int .i64 0, .int .i64 0] 43))); clear HM; have HM := HM2; clear HM2))
              clear hHeld
              refine hK.out _ _ ?_ (fun hHeld => ?_)
              · exact ⟨HS.out.s, HS.out.ex1, HS.out.ex0⟩
              clear hK K
              (try simp only [Act.put, nA, nB, nC])
              refine wpAnyM_oneS 11 rfl (by kernel_rfl) (fun K hK => ?_)
              refine if_pos_of (by rfl) (wp_bslv2 (.tmp 51) (.tmp 59) rfl rfl rfl ?_); have HT := Lib.hid (ts_sl2 HS.out (v2L XX LL) _ (by first | (simp; rfl) | rfl)); clear HS; have HS := Lib.hid HT.out.1; have HM := Lib.hid HT.out.2; clear HT; (try (have HA2 := Lib.hid (And.intro (HA.out.1.alloc (.cells (arrv 6 (sideV (v2L XX LL))) 43)) HA.out.2); clear HA; have HA := HA2; clear HA2))
              clear hHeld
              refine hK.out _ _ ?_ (fun hHeld => ?_)
              · exact ⟨HS.out.s, HS.out.ex1, HS.out.ex0⟩
              clear hK K
              (try simp only [Act.put, nA, nB, nC])
              refine wpAnyM_oneS 12 rfl (by kernel_rfl) (fun K hK => ?_)
              go_simp
              (refine (XC.out _ _ HS.out.cell HS.out.free HM.out).mono ?_); rintro e w14 ⟨rfl, hu⟩; clear HM; have hcl := HS.out.cell; have hcb := HS.out.cb; have hlm := HS.out.lim; have HS2 := Lib.hid (HS.out.upd' hu); clear HS; have HS := HS2; clear HS2; (try (have HA2 := Lib.hid (And.intro (HA.out.1.upd hu (by have := HA.out.2; omega)) HA.out.2); clear HA; have HA := HA2; clear HA2)); (try (have HL2 := Lib.hid (HL.out.upd hcl hu); clear HL; have HL := HL2; clear HL2)); (try (have HM2 := Lib.hid (HM.out.upd hcl hu); clear HM; have HM := HM2; clear HM2)); clear hu hcl hcb hlm
              (try dsimp only)
              (try simp only [Act.put, nA, nB, nC])
              clear hHeld
              refine hK.out _ _ ?_ (fun hHeld => ?_)
              · exact ⟨HS.out.s, HS.out.ex1, HS.out.ex0⟩
              clear hK K
              (try simp only [Act.put, nA, nB, nC])
              refine wpAnyM_one 14 rfl (by kernel_rfl) (fun K hK => ?_)
              refine if_pos_of rfl ?_; refine wp_of_run (run_store_row 43 (.tmp 12) (.tmp 61) rfl _ rfl rfl HA.out.1 iv3) ?_
              refine hK.out _ _ (.inl (by kernel_rfl)) (fun _ => ?_)
              clear hK K
              (try simp only [Act.put, nA, nB, nC])
              refine wpAnyM_done (by kernel_rfl) ?_ _
              (go_wp2_with fail; go_meet; exact ⟨_, rfl, Lib.hid (HS.out.put HA.out.1 HA.out.2 YY)⟩)
          · go_simp; have HA := Lib.hid (ts_new3 HS.out _ (by first | (simp; rfl) | rfl)); have HS2 := Lib.hid (HS.out.alloc (.cells #[.int .i64 0, .int .i64 0, .int .i64 0] 43)); clear HS; have HS := HS2; clear HS2; (try (have HL2 := Lib.hid (HL.out.below (Below.alloc (Below.refl _ _) (Nat.le_refl _) (.cells #[.int .i64 0, .int .i64 0, .int .i64 0] 43))); clear HL; have HL := HL2; clear HL2)); (try (have HM2 := Lib.hid (HM.out.below (Below.alloc (Below.refl _ _) (Nat.le_refl _) (.cells #[.int .i64 0, .int .i64 0, .int .i64 0] 43))); clear HM; have HM := HM2; clear HM2))
            clear hHeld
            refine hK.out _ _ ?_ (fun hHeld => ?_)
            · exact ⟨HS.out.s, HS.out.ex1, HS.out.ex0⟩
            clear hK K
            (try simp only [Act.put, nA, nB, nC])
            refine wpAnyM_oneS 10 rfl (by kernel_rfl) (fun K hK => ?_)
            go_simp
            (refine (LC.out _ HS.out.cell HS.out.free).mono ?_); rintro e w13 ⟨rfl, hu⟩; have hcl := HS.out.cell; have hcb := HS.out.cb; have hlm := HS.out.lim; have HS2 := Lib.hid (HS.out.upd' hu); clear HS; have HS := HS2; clear HS2; (try (have HA2 := Lib.hid (And.intro (HA.out.1.upd hu (by have := HA.out.2; omega)) HA.out.2); clear HA; have HA := HA2; clear HA2)); (try (have HL2 := Lib.hid (HL.out.upd hcl hu); clear HL; have HL := HL2; clear HL2)); (try (have HM2 := Lib.hid (HM.out.upd hcl hu); clear HM; have HM := HM2; clear HM2)); clear hu hcl hcb hlm
            (try dsimp only)
            (try simp only [Act.put, nA, nB, nC])
            clear hHeld
            refine hK.out _ _ ?_ (fun hHeld => ?_)
            · exact ⟨HS.out.s, HS.out.ex1, HS.out.ex0⟩
            clear hK K
            (try simp only [Act.put, nA, nB, nC])
            refine wpAnyM_oneS 11 rfl (by kernel_rfl) (fun K hK => ?_)
            refine if_pos_of (by rfl) (wp_bslv2 (.tmp 51) (.tmp 59) rfl rfl rfl ?_); have HT := Lib.hid (ts_sl2 HS.out (v2L XX LL) _ (by first | (simp; rfl) | rfl)); clear HS; have HS := Lib.hid HT.out.1; have HM := Lib.hid HT.out.2; clear HT; (try (have HA2 := Lib.hid (And.intro (HA.out.1.alloc (.cells (arrv 6 (sideV (v2L XX LL))) 43)) HA.out.2); clear HA; have HA := HA2; clear HA2))
            clear hHeld
            refine hK.out _ _ ?_ (fun hHeld => ?_)
            · exact ⟨HS.out.s, HS.out.ex1, HS.out.ex0⟩
            clear hK K
            (try simp only [Act.put, nA, nB, nC])
            refine wpAnyM_oneS 12 rfl (by kernel_rfl) (fun K hK => ?_)
            go_simp
            (refine (XC.out _ _ HS.out.cell HS.out.free HM.out).mono ?_); rintro e w14 ⟨rfl, hu⟩; clear HM; have hcl := HS.out.cell; have hcb := HS.out.cb; have hlm := HS.out.lim; have HS2 := Lib.hid (HS.out.upd' hu); clear HS; have HS := HS2; clear HS2; (try (have HA2 := Lib.hid (And.intro (HA.out.1.upd hu (by have := HA.out.2; omega)) HA.out.2); clear HA; have HA := HA2; clear HA2)); (try (have HL2 := Lib.hid (HL.out.upd hcl hu); clear HL; have HL := HL2; clear HL2)); (try (have HM2 := Lib.hid (HM.out.upd hcl hu); clear HM; have HM := HM2; clear HM2)); clear hu hcl hcb hlm
            (try dsimp only)
            (try simp only [Act.put, nA, nB, nC])
            clear hHeld
            refine hK.out _ _ ?_ (fun hHeld => ?_)
            · exact ⟨HS.out.s, HS.out.ex1, HS.out.ex0⟩
            clear hK K
            (try simp only [Act.put, nA, nB, nC])
            refine wpAnyM_one 14 rfl (by kernel_rfl) (fun K hK => ?_)
            refine if_pos_of rfl ?_; refine wp_of_run (run_store_row 43 (.tmp 12) (.tmp 61) rfl _ rfl rfl HA.out.1 iv3) ?_
            refine hK.out _ _ (.inl (by kernel_rfl)) (fun _ => ?_)
            clear hK K
            (try simp only [Act.put, nA, nB, nC])
            refine wpAnyM_done (by kernel_rfl) ?_ _
            (go_wp2_with fail; go_meet; exact ⟨_, rfl, Lib.hid (HS.out.put HA.out.1 HA.out.2 YY)⟩)
        · go_simp; have HA := Lib.hid (ts_new3 HS.out _ (by first | (simp; rfl) | rfl)); have HS2 := Lib.hid (HS.out.alloc (.cells #[.int .i64 0, .int .i64 0, .int .i64 0] 43)); clear HS; have HS := HS2; clear HS2; (try (have HL2 := Lib.hid (HL.out.below (Below.alloc (Below.refl _ _) (Nat.le_refl _) (.cells #[.int .i64 0, .int .i64 0, .int .i64 0] 43))); clear HL; have HL := HL2; clear HL2)); (try (have HM2 := Lib.hid (HM.out.below (Below.alloc (Below.refl _ _) (Nat.le_refl _) (.cells #[.int .i64 0, .int .i64 0, .int .i64 0] 43))); clear HM; have HM := HM2; clear HM2))
          clear hHeld
          refine hK.out _ _ ?_ (fun hHeld => ?_)
          · exact ⟨HS.out.s, HS.out.ex1, HS.out.ex0⟩
          clear hK K
          (try simp only [Act.put, nA, nB, nC])
          refine wpAnyM_oneS 8 rfl (by kernel_rfl) (fun K hK => ?_)
          go_simp
          (refine (MC.out _ _ HS.out.cell HS.out.free HL.out).mono ?_); rintro e w12 ⟨rfl, hu⟩; clear HL; have hcl := HS.out.cell; have hcb := HS.out.cb; have hlm := HS.out.lim; have HS2 := Lib.hid (HS.out.upd' hu); clear HS; have HS := HS2; clear HS2; (try (have HA2 := Lib.hid (And.intro (HA.out.1.upd hu (by have := HA.out.2; omega)) HA.out.2); clear HA; have HA := HA2; clear HA2)); (try (have HL2 := Lib.hid (HL.out.upd hcl hu); clear HL; have HL := HL2; clear HL2)); (try (have HM2 := Lib.hid (HM.out.upd hcl hu); clear HM; have HM := HM2; clear HM2)); clear hu hcl hcb hlm
          (try dsimp only)
          (try simp only [Act.put, nA, nB, nC])
          clear hHeld
          refine hK.out _ _ ?_ (fun hHeld => ?_)
          · exact ⟨HS.out.s, HS.out.ex1, HS.out.ex0⟩
          clear hK K
          (try simp only [Act.put, nA, nB, nC])
          refine wpAnyM_oneS 10 rfl (by kernel_rfl) (fun K hK => ?_)
          go_simp
          (refine (LC.out _ HS.out.cell HS.out.free).mono ?_); rintro e w13 ⟨rfl, hu⟩; have hcl := HS.out.cell; have hcb := HS.out.cb; have hlm := HS.out.lim; have HS2 := Lib.hid (HS.out.upd' hu); clear HS; have HS := HS2; clear HS2; (try (have HA2 := Lib.hid (And.intro (HA.out.1.upd hu (by have := HA.out.2; omega)) HA.out.2); clear HA; have HA := HA2; clear HA2)); (try (have HL2 := Lib.hid (HL.out.upd hcl hu); clear HL; have HL := HL2; clear HL2)); (try (have HM2 := Lib.hid (HM.out.upd hcl hu); clear HM; have HM := HM2; clear HM2)); clear hu hcl hcb hlm
          (try dsimp only)
          (try simp only [Act.put, nA, nB, nC])
          clear hHeld
          refine hK.out _ _ ?_ (fun hHeld => ?_)
          · exact ⟨HS.out.s, HS.out.ex1, HS.out.ex0⟩
          clear hK K
          (try simp only [Act.put, nA, nB, nC])
          refine wpAnyM_oneS 11 rfl (by kernel_rfl) (fun K hK => ?_)
          refine if_pos_of (by rfl) (wp_bslv2 (.tmp 51) (.tmp 59) rfl rfl rfl ?_); have HT := Lib.hid (ts_sl2 HS.out (v2L XX LL) _ (by first | (simp; rfl) | rfl)); clear HS; have HS := Lib.hid HT.out.1; have HM := Lib.hid HT.out.2; clear HT; (try (have HA2 := Lib.hid (And.intro (HA.out.1.alloc (.cells (arrv 6 (sideV (v2L XX LL))) 43)) HA.out.2); clear HA; have HA := HA2; clear HA2))
          clear hHeld
          refine hK.out _ _ ?_ (fun hHeld => ?_)
          · exact ⟨HS.out.s, HS.out.ex1, HS.out.ex0⟩
          clear hK K
          (try simp only [Act.put, nA, nB, nC])
          refine wpAnyM_oneS 12 rfl (by kernel_rfl) (fun K hK => ?_)
          go_simp
          (refine (XC.out _ _ HS.out.cell HS.out.free HM.out).mono ?_); rintro e w14 ⟨rfl, hu⟩; clear HM; have hcl := HS.out.cell; have hcb := HS.out.cb; have hlm := HS.out.lim; have HS2 := Lib.hid (HS.out.upd' hu); clear HS; have HS := HS2; clear HS2; (try (have HA2 := Lib.hid (And.intro (HA.out.1.upd hu (by have := HA.out.2; omega)) HA.out.2); clear HA; have HA := HA2; clear HA2)); (try (have HL2 := Lib.hid (HL.out.upd hcl hu); clear HL; have HL := HL2; clear HL2)); (try (have HM2 := Lib.hid (HM.out.upd hcl hu); clear HM; have HM := HM2; clear HM2)); clear hu hcl hcb hlm
          (try dsimp only)
          (try simp only [Act.put, nA, nB, nC])
          clear hHeld
          refine hK.out _ _ ?_ (fun hHeld => ?_)
          · exact ⟨HS.out.s, HS.out.ex1, HS.out.ex0⟩
          clear hK K
          (try simp only [Act.put, nA, nB, nC])
          refine wpAnyM_one 14 rfl (by kernel_rfl) (fun K hK => ?_)
          refine if_pos_of rfl ?_; refine wp_of_run (run_store_row 43 (.tmp 12) (.tmp 61) rfl _ rfl rfl HA.out.1 iv3) ?_
          refine hK.out _ _ (.inl (by kernel_rfl)) (fun _ => ?_)
          clear hK K
          (try simp only [Act.put, nA, nB, nC])
          refine wpAnyM_done (by kernel_rfl) ?_ _
          (go_wp2_with fail; go_meet; exact ⟨_, rfl, Lib.hid (HS.out.put HA.out.1 HA.out.2 YY)⟩)
      · go_simp; have HA := Lib.hid (ts_new3 HS.out _ (by first | (simp; rfl) | rfl)); have HS2 := Lib.hid (HS.out.alloc (.cells #[.int .i64 0, .int .i64 0, .int .i64 0] 43)); clear HS; have HS := HS2; clear HS2; (try (have HL2 := Lib.hid (HL.out.below (Below.alloc (Below.refl _ _) (Nat.le_refl _) (.cells #[.int .i64 0, .int .i64 0, .int .i64 0] 43))); clear HL; have HL := HL2; clear HL2)); (try (have HM2 := Lib.hid (HM.out.below (Below.alloc (Below.refl _ _) (Nat.le_refl _) (.cells #[.int .i64 0, .int .i64 0, .int .i64 0] 43))); clear HM; have HM := HM2; clear HM2))
        clear hHeld
        refine hK.out _ _ ?_ (fun hHeld => ?_)
        · exact ⟨HS.out.s, HS.out.ex1, HS.out.ex0⟩
        clear hK K
        (try simp only [Act.put, nA, nB, nC])
        refine wpAnyM_oneS 2 rfl (by kernel_rfl) (fun K hK => ?_)
        go_simp
        (refine (part_any KS 7 _ (by decide) (by decide)).mono ?_); (rw [HV.out.2]); rintro e w11 ⟨rfl, hb⟩; have HS2 := Lib.hid (HS.out.down hb); clear HS; have HS := HS2; clear HS2; (try (have HA2 := Lib.hid (And.intro (HA.out.1.below hb) HA.out.2); clear HA; have HA := HA2; clear HA2)); (try (have HL2 := Lib.hid (HL.out.below hb); clear HL; have HL := HL2; clear HL2)); (try (have HM2 := Lib.hid (HM.out.below hb); clear HM; have HM := HM2; clear HM2)); clear hb
        (try dsimp only)
        (try simp only [Act.put, nA, nB, nC])
        clear hHeld
        refine hK.out _ _ ?_ (fun hHeld => ?_)
        · exact ⟨HS.out.s, HS.out.ex1, HS.out.ex0⟩
        clear hK K
        (try simp only [Act.put, nA, nB, nC])
        refine wpAnyM_oneS 8 rfl (by kernel_rfl) (fun K hK => ?_)
        go_simp
        (refine (MC.out _ _ HS.out.cell HS.out.free HL.out).mono ?_); rintro e w12 ⟨rfl, hu⟩; clear HL; have hcl := HS.out.cell; have hcb := HS.out.cb; have hlm := HS.out.lim; have HS2 := Lib.hid (HS.out.upd' hu); clear HS; have HS := HS2; clear HS2; (try (have HA2 := Lib.hid (And.intro (HA.out.1.upd hu (by have := HA.out.2; omega)) HA.out.2); clear HA; have HA := HA2; clear HA2)); (try (have HL2 := Lib.hid (HL.out.upd hcl hu); clear HL; have HL := HL2; clear HL2)); (try (have HM2 := Lib.hid (HM.out.upd hcl hu); clear HM; have HM := HM2; clear HM2)); clear hu hcl hcb hlm
        (try dsimp only)
        (try simp only [Act.put, nA, nB, nC])
        clear hHeld
        refine hK.out _ _ ?_ (fun hHeld => ?_)
        · exact ⟨HS.out.s, HS.out.ex1, HS.out.ex0⟩
        clear hK K
        (try simp only [Act.put, nA, nB, nC])
        refine wpAnyM_oneS 10 rfl (by kernel_rfl) (fun K hK => ?_)
        go_simp
        (refine (LC.out _ HS.out.cell HS.out.free).mono ?_); rintro e w13 ⟨rfl, hu⟩; have hcl := HS.out.cell; have hcb := HS.out.cb; have hlm := HS.out.lim; have HS2 := Lib.hid (HS.out.upd' hu); clear HS; have HS := HS2; clear HS2; (try (have HA2 := Lib.hid (And.intro (HA.out.1.upd hu (by have := HA.out.2; omega)) HA.out.2); clear HA; have HA := HA2; clear HA2)); (try (have HL2 := Lib.hid (HL.out.upd hcl hu); clear HL; have HL := HL2; clear HL2)); (try (have HM2 := Lib.hid (HM.out.upd hcl hu); clear HM; have HM := HM2; clear HM2)); clear hu hcl hcb hlm
        (try dsimp only)
        (try simp only [Act.put, nA, nB, nC])
        clear hHeld
        refine hK.out _ _ ?_ (fun hHeld => ?_)
        · exact ⟨HS.out.s, HS.out.ex1, HS.out.ex0⟩
        clear hK K
        (try simp only [Act.put, nA, nB, nC])
        refine wpAnyM_oneS 11 rfl (by kernel_rfl) (fun K hK => ?_)
        refine if_pos_of (by rfl) (wp_bslv2 (.tmp 51) (.tmp 59) rfl rfl rfl ?_); have HT := Lib.hid (ts_sl2 HS.out (v2L XX LL) _ (by first | (simp; rfl) | rfl)); clear HS; have HS := Lib.hid HT.out.1; have HM := Lib.hid HT.out.2; clear HT; (try (have HA2 := Lib.hid (And.intro (HA.out.1.alloc (.cells (arrv 6 (sideV (v2L XX LL))) 43)) HA.out.2); clear HA; have HA := HA2; clear HA2))
        clear hHeld
        refine hK.out _ _ ?_ (fun hHeld => ?_)
        · exact ⟨HS.out.s, HS.out.ex1, HS.out.ex0⟩
        clear hK K
        (try simp only [Act.put, nA, nB, nC])
        refine wpAnyM_oneS 12 rfl (by kernel_rfl) (fun K hK => ?_)
        go_simp
        (refine (XC.out _ _ HS.out.cell HS.out.free HM.out).mono ?_); rintro e w14 ⟨rfl, hu⟩; clear HM; have hcl := HS.out.cell; have hcb := HS.out.cb; have hlm := HS.out.lim; have HS2 := Lib.hid (HS.out.upd' hu); clear HS; have HS := HS2; clear HS2; (try (have HA2 := Lib.hid (And.intro (HA.out.1.upd hu (by have := HA.out.2; omega)) HA.out.2); clear HA; have HA := HA2; clear HA2)); (try (have HL2 := Lib.hid (HL.out.upd hcl hu); clear HL; have HL := HL2; clear HL2)); (try (have HM2 := Lib.hid (HM.out.upd hcl hu); clear HM; have HM := HM2; clear HM2)); clear hu hcl hcb hlm
        (try dsimp only)
        (try simp only [Act.put, nA, nB, nC])
        clear hHeld
        refine hK.out _ _ ?_ (fun hHeld => ?_)
        · exact ⟨HS.out.s, HS.out.ex1, HS.out.ex0⟩
        clear hK K
        (try simp only [Act.put, nA, nB, nC])
        refine wpAnyM_one 14 rfl (by kernel_rfl) (fun K hK => ?_)
        refine if_pos_of rfl ?_; refine wp_of_run (run_store_row 43 (.tmp 12) (.tmp 61) rfl _ rfl rfl HA.out.1 iv3) ?_
        refine hK.out _ _ (.inl (by kernel_rfl)) (fun _ => ?_)
        clear hK K
        (try simp only [Act.put, nA, nB, nC])
        refine wpAnyM_done (by kernel_rfl) ?_ _
        (go_wp2_with fail; go_meet; exact ⟨_, rfl, Lib.hid (HS.out.put HA.out.1 HA.out.2 YY)⟩)
    · go_simp; have HA := Lib.hid (ts_new3 HS.out _ (by first | (simp; rfl) | rfl)); have HS2 := Lib.hid (HS.out.alloc (.cells #[.int .i64 0, .int .i64 0, .int .i64 0] 43)); clear HS; have HS := HS2; clear HS2; (try (have HL2 := Lib.hid (HL.out.below (Below.alloc (Below.refl _ _) (Nat.le_refl _) (.cells #[.int .i64 0, .int .i64 0, .int .i64 0] 43))); clear HL; have HL := HL2; clear HL2)); (try (have HM2 := Lib.hid (HM.out.below (Below.alloc (Below.refl _ _) (Nat.le_refl _) (.cells #[.int .i64 0, .int .i64 0, .int .i64 0] 43))); clear HM; have HM := HM2; clear HM2))
      clear hHeld
      refine hK.out _ _ ?_ (fun hHeld => ?_)
      · exact ⟨HS.out.s, HS.out.ex1, HS.out.ex0⟩
      clear hK K
      (try simp only [Act.put, nA, nB, nC])
      refine wpAnyM_twoS 2 7 rfl rfl (by kernel_rfl) (fun K hK => ?_) (fun K hK => ?_)
      · go_simp
        (refine (part_any KS 7 _ (by decide) (by decide)).mono ?_); (rw [HV.out.2]); rintro e w11 ⟨rfl, hb⟩; have HS2 := Lib.hid (HS.out.down hb); clear HS; have HS := HS2; clear HS2; (try (have HA2 := Lib.hid (And.intro (HA.out.1.below hb) HA.out.2); clear HA; have HA := HA2; clear HA2)); (try (have HL2 := Lib.hid (HL.out.below hb); clear HL; have HL := HL2; clear HL2)); (try (have HM2 := Lib.hid (HM.out.below hb); clear HM; have HM := HM2; clear HM2)); clear hb
        (try dsimp only)
        (try simp only [Act.put, nA, nB, nC])
        clear hHeld
        refine hK.out _ _ ?_ (fun hHeld => ?_)
        · exact ⟨HS.out.s, HS.out.ex1, HS.out.ex0⟩
        clear hK K
        (try simp only [Act.put, nA, nB, nC])
        refine wpAnyM_oneS 7 rfl (by kernel_rfl) (fun K hK => ?_)
        refine if_pos_of (by rfl) (wp_bslv2 (.tmp 54) (.tmp 55) rfl rfl rfl ?_); have HT := Lib.hid (ts_sl2 HS.out (v2L VV NN) _ (by first | (simp; rfl) | rfl)); clear HS; have HS := Lib.hid HT.out.1; have HL := Lib.hid HT.out.2; clear HT; (try (have HA2 := Lib.hid (And.intro (HA.out.1.alloc (.cells (arrv 6 (sideV (v2L VV NN))) 43)) HA.out.2); clear HA; have HA := HA2; clear HA2))
        clear hHeld
        refine hK.out _ _ ?_ (fun hHeld => ?_)
        · exact ⟨HS.out.s, HS.out.ex1, HS.out.ex0⟩
        clear hK K
        (try simp only [Act.put, nA, nB, nC])
        refine wpAnyM_oneS 8 rfl (by kernel_rfl) (fun K hK => ?_)
        go_simp
        (refine (MC.out _ _ HS.out.cell HS.out.free HL.out).mono ?_); rintro e w12 ⟨rfl, hu⟩; clear HL; have hcl := HS.out.cell; have hcb := HS.out.cb; have hlm := HS.out.lim; have HS2 := Lib.hid (HS.out.upd' hu); clear HS; have HS := HS2; clear HS2; (try (have HA2 := Lib.hid (And.intro (HA.out.1.upd hu (by have := HA.out.2; omega)) HA.out.2); clear HA; have HA := HA2; clear HA2)); (try (have HL2 := Lib.hid (HL.out.upd hcl hu); clear HL; have HL := HL2; clear HL2)); (try (have HM2 := Lib.hid (HM.out.upd hcl hu); clear HM; have HM := HM2; clear HM2)); clear hu hcl hcb hlm
        (try dsimp only)
        (try simp only [Act.put, nA, nB, nC])
        clear hHeld
        refine hK.out _ _ ?_ (fun hHeld => ?_)
        · exact ⟨HS.out.s, HS.out.ex1, HS.out.ex0⟩
        clear hK K
        (try simp only [Act.put, nA, nB, nC])
        refine wpAnyM_oneS 10 rfl (by kernel_rfl) (fun K hK => ?_)
        go_simp
        (refine (LC.out _ HS.out.cell HS.out.free).mono ?_); rintro e w13 ⟨rfl, hu⟩; have hcl := HS.out.cell; have hcb := HS.out.cb; have hlm := HS.out.lim; have HS2 := Lib.hid (HS.out.upd' hu); clear HS; have HS := HS2; clear HS2; (try (have HA2 := Lib.hid (And.intro (HA.out.1.upd hu (by have := HA.out.2; omega)) HA.out.2); clear HA; have HA := HA2; clear HA2)); (try (have HL2 := Lib.hid (HL.out.upd hcl hu); clear HL; have HL := HL2; clear HL2)); (try (have HM2 := Lib.hid (HM.out.upd hcl hu); clear HM; have HM := HM2; clear HM2)); clear hu hcl hcb hlm
        (try dsimp only)
        (try simp only [Act.put, nA, nB, nC])
        clear hHeld
        refine hK.out _ _ ?_ (fun hHeld => ?_)
        · exact ⟨HS.out.s, HS.out.ex1, HS.out.ex0⟩
        clear hK K
        (try simp only [Act.put, nA, nB, nC])
        refine wpAnyM_oneS 11 rfl (by kernel_rfl) (fun K hK => ?_)
        refine if_pos_of (by rfl) (wp_bslv2 (.tmp 51) (.tmp 59) rfl rfl rfl ?_); have HT := Lib.hid (ts_sl2 HS.out (v2L XX LL) _ (by first | (simp; rfl) | rfl)); clear HS; have HS := Lib.hid HT.out.1; have HM := Lib.hid HT.out.2; clear HT; (try (have HA2 := Lib.hid (And.intro (HA.out.1.alloc (.cells (arrv 6 (sideV (v2L XX LL))) 43)) HA.out.2); clear HA; have HA := HA2; clear HA2))
        clear hHeld
        refine hK.out _ _ ?_ (fun hHeld => ?_)
        · exact ⟨HS.out.s, HS.out.ex1, HS.out.ex0⟩
        clear hK K
        (try simp only [Act.put, nA, nB, nC])
        refine wpAnyM_oneS 12 rfl (by kernel_rfl) (fun K hK => ?_)
        go_simp
        (refine (XC.out _ _ HS.out.cell HS.out.free HM.out).mono ?_); rintro e w14 ⟨rfl, hu⟩; clear HM; have hcl := HS.out.cell; have hcb := HS.out.cb; have hlm := HS.out.lim; have HS2 := Lib.hid (HS.out.upd' hu); clear HS; have HS := HS2; clear HS2; (try (have HA2 := Lib.hid (And.intro (HA.out.1.upd hu (by have := HA.out.2; omega)) HA.out.2); clear HA; have HA := HA2; clear HA2)); (try (have HL2 := Lib.hid (HL.out.upd hcl hu); clear HL; have HL := HL2; clear HL2)); (try (have HM2 := Lib.hid (HM.out.upd hcl hu); clear HM; have HM := HM2; clear HM2)); clear hu hcl hcb hlm
        (try dsimp only)
        (try simp only [Act.put, nA, nB, nC])
        clear hHeld
        refine hK.out _ _ ?_ (fun hHeld => ?_)
        · exact ⟨HS.out.s, HS.out.ex1, HS.out.ex0⟩
        clear hK K
        (try simp only [Act.put, nA, nB, nC])
        refine wpAnyM_one 14 rfl (by kernel_rfl) (fun K hK => ?_)
        refine if_pos_of rfl ?_; refine wp_of_run (run_store_row 43 (.tmp 12) (.tmp 61) rfl _ rfl rfl HA.out.1 iv3) ?_
        refine hK.out _ _ (.inl (by kernel_rfl)) (fun _ => ?_)
        clear hK K
        (try simp only [Act.put, nA, nB, nC])
        refine wpAnyM_done (by kernel_rfl) ?_ _
        (go_wp2_with fail; go_meet; exact ⟨_, rfl, Lib.hid (HS.out.put HA.out.1 HA.out.2 YY)⟩)
      · refine if_pos_of (by rfl) (wp_bslv2 (.tmp 54) (.tmp 55) rfl rfl rfl ?_); have HT := Lib.hid (ts_sl2 HS.out (v2L VV NN) _ (by first | (simp; rfl) | rfl)); clear HS; have HS := Lib.hid HT.out.1; have HL := Lib.hid HT.out.2; clear HT; (try (have HA2 := Lib.hid (And.intro (HA.out.1.alloc (.cells (arrv 6 (sideV (v2L VV NN))) 43)) HA.out.2); clear HA; have HA := HA2; clear HA2))
        clear hHeld
        refine hK.out _ _ ?_ (fun hHeld => ?_)
        · exact ⟨HS.out.s, HS.out.ex1, HS.out.ex0⟩
        clear hK K
        (try simp only [Act.put, nA, nB, nC])
        refine wpAnyM_oneS 2 rfl (by kernel_rfl) (fun K hK => ?_)
        go_simp
        (refine (part_any KS 7 _ (by decide) (by decide)).mono ?_); (rw [HV.out.2]); rintro e w11 ⟨rfl, hb⟩; have HS2 := Lib.hid (HS.out.down hb); clear HS; have HS := HS2; clear HS2; (try (have HA2 := Lib.hid (And.intro (HA.out.1.below hb) HA.out.2); clear HA; have HA := HA2; clear HA2)); (try (have HL2 := Lib.hid (HL.out.below hb); clear HL; have HL := HL2; clear HL2)); (try (have HM2 := Lib.hid (HM.out.below hb); clear HM; have HM := HM2; clear HM2)); clear hb
        (try dsimp only)
        (try simp only [Act.put, nA, nB, nC])
        clear hHeld
        refine hK.out _ _ ?_ (fun hHeld => ?_)
        · exact ⟨HS.out.s, HS.out.ex1, HS.out.ex0⟩
        clear hK K
        (try simp only [Act.put, nA, nB, nC])
        refine wpAnyM_oneS 8 rfl (by kernel_rfl) (fun K hK => ?_)
        go_simp
        (refine (MC.out _ _ HS.out.cell HS.out.free HL.out).mono ?_); rintro e w12 ⟨rfl, hu⟩; clear HL; have hcl := HS.out.cell; have hcb := HS.out.cb; have hlm := HS.out.lim; have HS2 := Lib.hid (HS.out.upd' hu); clear HS; have HS := HS2; clear HS2; (try (have HA2 := Lib.hid (And.intro (HA.out.1.upd hu (by have := HA.out.2; omega)) HA.out.2); clear HA; have HA := HA2; clear HA2)); (try (have HL2 := Lib.hid (HL.out.upd hcl hu); clear HL; have HL := HL2; clear HL2)); (try (have HM2 := Lib.hid (HM.out.upd hcl hu); clear HM; have HM := HM2; clear HM2)); clear hu hcl hcb hlm
        (try dsimp only)
        (try simp only [Act.put, nA, nB, nC])
        clear hHeld
        refine hK.out _ _ ?_ (fun hHeld => ?_)
        · exact ⟨HS.out.s, HS.out.ex1, HS.out.ex0⟩
        clear hK K
        (try simp only [Act.put, nA, nB, nC])
        refine wpAnyM_oneS 10 rfl (by kernel_rfl) (fun K hK => ?_)
        go_simp
        (refine (LC.out _ HS.out.cell HS.out.free).mono ?_); rintro e w13 ⟨rfl, hu⟩; have hcl := HS.out.cell; have hcb := HS.out.cb; have hlm := HS.out.lim; have HS2 := Lib.hid (HS.out.upd' hu); clear HS; have HS := HS2; clear HS2; (try (have HA2 := Lib.hid (And.intro (HA.out.1.upd hu (by have := HA.out.2; omega)) HA.out.2); clear HA; have HA := HA2; clear HA2)); (try (have HL2 := Lib.hid (HL.out.upd hcl hu); clear HL; have HL := HL2; clear HL2)); (try (have HM2 := Lib.hid (HM.out.upd hcl hu); clear HM; have HM := HM2; clear HM2)); clear hu hcl hcb hlm
        (try dsimp only)
        (try simp only [Act.put, nA, nB, nC])
        clear hHeld
        refine hK.out _ _ ?_ (fun hHeld => ?_)
        · exact ⟨HS.out.s, HS.out.ex1, HS.out.ex0⟩
        clear hK K
        (try simp only [Act.put, nA, nB, nC])
        refine wpAnyM_oneS 11 rfl (by kernel_rfl) (fun K hK => ?_)
        refine if_pos_of (by rfl) (wp_bslv2 (.tmp 51) (.tmp 59) rfl rfl rfl ?_); have HT := Lib.hid (ts_sl2 HS.out (v2L XX LL) _ (by first | (simp; rfl) | rfl)); clear HS; have HS := Lib.hid HT.out.1; have HM := Lib.hid HT.out.2; clear HT; (try (have HA2 := Lib.hid (And.intro (HA.out.1.alloc (.cells (arrv 6 (sideV (v2L XX LL))) 43)) HA.out.2); clear HA; have HA := HA2; clear HA2))
        clear hHeld
        refine hK.out _ _ ?_ (fun hHeld => ?_)
        · exact ⟨HS.out.s, HS.out.ex1, HS.out.ex0⟩
        clear hK K
        (try simp only [Act.put, nA, nB, nC])
        refine wpAnyM_oneS 12 rfl (by kernel_rfl) (fun K hK => ?_)
        go_simp
        (refine (XC.out _ _ HS.out.cell HS.out.free HM.out).mono ?_); rintro e w14 ⟨rfl, hu⟩; clear HM; have hcl := HS.out.cell; have hcb := HS.out.cb; have hlm := HS.out.lim; have HS2 := Lib.hid (HS.out.upd' hu); clear HS; have HS := HS2; clear HS2; (try (have HA2 := Lib.hid (And.intro (HA.out.1.upd hu (by have := HA.out.2; omega)) HA.out.2); clear HA; have HA := HA2; clear HA2)); (try (have HL2 := Lib.hid (HL.out.upd hcl hu); clear HL; have HL := HL2; clear HL2)); (try (have HM2 := Lib.hid (HM.out.upd hcl hu); clear HM; have HM := HM2; clear HM2)); clear hu hcl hcb hlm
        (try dsimp only)
        (try simp only [Act.put, nA, nB, nC])
        clear hHeld
        refine hK.out _ _ ?_ (fun hHeld => ?_)
        · exact ⟨HS.out.s, HS.out.ex1, HS.out.ex0⟩
        clear hK K
        (try simp only [Act.put, nA, nB, nC])
        refine wpAnyM_one 14 rfl (by kernel_rfl) (fun K hK => ?_)
        refine if_pos_of rfl ?_; refine wp_of_run (run_store_row 43 (.tmp 12) (.tmp 61) rfl _ rfl rfl HA.out.1 iv3) ?_
        refine hK.out _ _ (.inl (by kernel_rfl)) (fun _ => ?_)
        clear hK K
        (try simp only [Act.put, nA, nB, nC])
        refine wpAnyM_done (by kernel_rfl) ?_ _
        (go_wp2_with fail; go_meet; exact ⟨_, rfl, Lib.hid (HS.out.put HA.out.1 HA.out.2 YY)⟩)
  case rest =>
  obtain ⟨xb, rfl, HB⟩ := hcut
  clear HS MC LC XC
  go_upto_region 8 with fail
  have HS := Lib.hid HB.out.drew
  clear HB
  refine wp_region_M (fun w' => Blk w' w.heap.size 32 24 KS) 3 (by kernel_rfl) ?_ (fun hHeld => ?_)
  · exact HS.out.s
  refine wpAnyM_take 0 (v := ?_) rfl (by kernel_rfl) (fun _ _ _ h => h) (Or.inl ⟨by rfl, ?_⟩) (by assumption) ?_
  rotate_left
  · (intro wx hSw; refine Eq.trans (run_load_row 32 (.tmp 4) (by rfl) (w.heap.size) (by rfl) _ _ _ _ (hSw) Try.underlying32 rfl (ist.trans (by rw [arrv_size]))) ?_; with_reducible rfl)
  (try simp only [Act.put, nA, nB, nC])
  refine wpAnyM_take 1 (v := ?_) rfl (by kernel_rfl) (fun _ _ _ h => h) (Or.inl ⟨by rfl, ?_⟩) (by assumption) ?_
  rotate_left
  · (intro wx hSw; (try dsimp only at hSw); go_simp; (try with_reducible rfl))
  (try simp only [Act.put, nA, nB, nC])
  refine wpAnyM_oneS 2 rfl (by kernel_rfl) (fun K hK => ?_)
  go_simp
  (refine (swith_any KS 0 (some ⟨qb, 0, none⟩) 4 4 QU _ (by decide) (by decide) (by decide) (slc_blk HS.out.ex3)).mono ?_); (rw [HW.out.1]); rintro e w28 ⟨rfl, hb⟩; have HT := Lib.hid (HS.out.down hb); clear HS hb; have HS := HT; clear HT
  (try dsimp only)
  (try simp only [Act.put, nA, nB, nC])
  clear hHeld
  refine hK.out _ _ ?_ (fun hHeld => ?_)
  · exact HS.out.s
  clear hK K
  (try simp only [Act.put, nA, nB, nC])
  refine wpAnyM_one 3 rfl (by kernel_rfl) (fun K hK => ?_)
  go_simp; rw [if_pos (arrv_size _ _), run_storeCells_row _ HS.out.s]; go_simp
  refine hK.out _ _ (.inl (by kernel_rfl)) (fun _ => ?_)
  clear hK K
  (try simp only [Act.put, nA, nB, nC])
  refine wpAnyM_done (by kernel_rfl) ?_ _
  have HB := Lib.hid (HS.out.rowS S1)
  generalize w28.setRow w.heap.size (arrv 24 S1) = W28 at *
  clear HS
  go_upto_region 9 with fail
  have HS := Lib.hid HB.out.drew
  clear HB
  refine wp_region_M (fun w' => Blk w' w.heap.size 32 24 S1) 3 (by kernel_rfl) ?_ (fun hHeld => ?_)
  · exact HS.out.s
  refine wpAnyM_take 0 (v := ?_) rfl (by kernel_rfl) (fun _ _ _ h => h) (Or.inl ⟨by rfl, ?_⟩) (by assumption) ?_
  rotate_left
  · (intro wx hSw; refine Eq.trans (run_load_row 32 (.tmp 4) (by rfl) (w.heap.size) (by rfl) _ _ _ _ (hSw) Try.underlying32 rfl (ist.trans (by rw [arrv_size]))) ?_; with_reducible rfl)
  (try simp only [Act.put, nA, nB, nC])
  refine wpAnyM_take 1 (v := ?_) rfl (by kernel_rfl) (fun _ _ _ h => h) (Or.inl ⟨by rfl, ?_⟩) (by assumption) ?_
  rotate_left
  · (intro wx hSw; (try dsimp only at hSw); go_simp; (try with_reducible rfl))
  (try simp only [Act.put, nA, nB, nC])
  refine wpAnyM_oneS 2 rfl (by kernel_rfl) (fun K hK => ?_)
  go_simp
  (refine (swith_any S1 4 (some ⟨nb, 0, none⟩) 3 3 NN _ (by decide) (by decide) (by decide) (slc_blk HS.out.ex1)).mono ?_); (rw [HW.out.2.1]); rintro e w29 ⟨rfl, hb⟩; have HT := Lib.hid (HS.out.down hb); clear HS hb; have HS := HT; clear HT
  (try dsimp only)
  (try simp only [Act.put, nA, nB, nC])
  clear hHeld
  refine hK.out _ _ ?_ (fun hHeld => ?_)
  · exact HS.out.s
  clear hK K
  (try simp only [Act.put, nA, nB, nC])
  refine wpAnyM_one 3 rfl (by kernel_rfl) (fun K hK => ?_)
  go_simp; rw [if_pos (arrv_size _ _), run_storeCells_row _ HS.out.s]; go_simp
  refine hK.out _ _ (.inl (by kernel_rfl)) (fun _ => ?_)
  clear hK K
  (try simp only [Act.put, nA, nB, nC])
  refine wpAnyM_done (by kernel_rfl) ?_ _
  have HB := Lib.hid (HS.out.rowS S2)
  generalize w29.setRow w.heap.size (arrv 24 S2) = W29 at *
  clear HS
  go_upto_region 10 with fail
  have HS := Lib.hid HB.out.drew
  clear HB
  refine wp_region_M (fun w' => Blk w' w.heap.size 32 24 S2) 3 (by kernel_rfl) ?_ (fun hHeld => ?_)
  · exact HS.out.s
  refine wpAnyM_take 0 (v := ?_) rfl (by kernel_rfl) (fun _ _ _ h => h) (Or.inl ⟨by rfl, ?_⟩) (by assumption) ?_
  rotate_left
  · (intro wx hSw; refine Eq.trans (run_load_row 32 (.tmp 4) (by rfl) (w.heap.size) (by rfl) _ _ _ _ (hSw) Try.underlying32 rfl (ist.trans (by rw [arrv_size]))) ?_; with_reducible rfl)
  (try simp only [Act.put, nA, nB, nC])
  refine wpAnyM_take 1 (v := ?_) rfl (by kernel_rfl) (fun _ _ _ h => h) (Or.inl ⟨by rfl, ?_⟩) (by assumption) ?_
  rotate_left
  · (intro wx hSw; (try dsimp only at hSw); go_simp; (try with_reducible rfl))
  (try simp only [Act.put, nA, nB, nC])
  refine wpAnyM_oneS 2 rfl (by kernel_rfl) (fun K hK => ?_)
  go_simp
  (refine (swith_any S2 7 (some ⟨xb, 0, none⟩) 3 3 YY _ (by decide) (by decide) (by decide) (slc_blk HS.out.ex0)).mono ?_); (rw [HW.out.2.2]); rintro e w210 ⟨rfl, hb⟩; have HT := Lib.hid (HS.out.down hb); clear HS hb; have HS := HT; clear HT
  (try dsimp only)
  (try simp only [Act.put, nA, nB, nC])
  clear hHeld
  refine hK.out _ _ ?_ (fun hHeld => ?_)
  · exact HS.out.s
  clear hK K
  (try simp only [Act.put, nA, nB, nC])
  refine wpAnyM_one 3 rfl (by kernel_rfl) (fun K hK => ?_)
  go_simp; rw [if_pos (arrv_size _ _), run_storeCells_row _ HS.out.s]; go_simp
  refine hK.out _ _ (.inl (by kernel_rfl)) (fun _ => ?_)
  clear hK K
  (try simp only [Act.put, nA, nB, nC])
  refine wpAnyM_done (by kernel_rfl) ?_ _
  have HB := Lib.hid (HS.out.rowS S3)
  generalize w210.setRow w.heap.size (arrv 24 S3) = W210 at *
  clear HS
  have P0 := HB.out.s
  go_wp2_with (first | (refine wpList_load_row rfl 32 _ rfl (w.heap.size) rfl 32 _ (0, 0) _ (P0) Try.underlying32 rfl (ist.trans (by rw [arrv_size])) ?_) | (go_at_call 22; (refine (EC.out _ HB.out.cell HB.out.free).mono ?_); rintro e w3 ⟨rfl, hu1⟩; have HT := Lib.hid (HB.out.upd' hu1); have P1 := HT.out.r; clear hu1 HB EC P0) | (refine wpList_store_row rfl 32 _ _ rfl (w.heap.size + 1 + 1) _ rfl rfl 32 _ (P1) (ist.trans (by rw [arrv_size])) (by rw [arrv_size, arrv_size]) (oneCell_arrv _ _) ?_))
  refine bodyPost_ret (results_cell_row Try.results26 _ _ (w.heap.size + 1 + 1) 32 (arrv 24 RR) (0, 0) _ rfl (setRow_heap _ _ _ _ _ _ P1) Try.underlying32 rfl (ist.trans (by rw [arrv_size]))) rfl ⟨by rw [HE.out.1], ?_⟩
  rw [HE.out.2]
  exact HT.out.upd.then' (below_row (Below.refl _ _) (by omega) _)
end Go.Proofs.Ytpoiobgpggiebaa
