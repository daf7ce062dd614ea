/- The walk of BiermanSign. -/
import Derived.Test.YtkfapackpggagaaNothW
import Derived.Deep.QuietTactic
import Derived.BigQuiet
namespace Go.Proofs.Ytkfapackpggagaa
open Go.RowKit
set_option maxRecDepth 100000
/-- The row turned, as far as the first loop is. -/
def ngF (H : Nat → Int) (k : Nat) : Nat → Int := fun i => if i < k then -H i else 0
structure SgR (H : Nat → Int) (p : Nat → Int) (bn : Nat) (k : Nat) (w wr : World) : Prop where
  below : Below w.heap.size w wr
  pB : Blk wr w.heap.size 25 300 p
  hB : Blk wr (w.heap.size + 1) 31 24 H
  nB : Blk wr bn 31 24 (ngF H k)
  bd : ∀ i, i < k → -1152921504606846976 ≤ H i ∧ H i ≤ 1152921504606846976
structure SgT (bc : Nat) (Ba Bb : Nat) (A G B K : Nat → Int) (x y : Bool) (w wr : World) : Prop where
  below : Below w.heap.size w wr
  fc : Flg wr bc x
  fd : Flg wr (bc + 1) y
  aB : Blk wr Ba 25 300 A
  gB : Blk wr (Ba + 1) 31 24 G
  bB : Blk wr Bb 25 300 B
  kB : Blk wr (Bb + 1) 31 24 K
theorem SgT.drew {bc : Nat} {Ba Bb : Nat} {A G B K : Nat → Int} {x y : Bool} {w wr : World} (s : SgT bc Ba Bb A G B K x y w wr) : SgT bc Ba Bb A G B K x y w wr.drew := ⟨s.below.drew, s.fc, s.fd, s.aB, s.gB, s.bB, s.kB⟩
theorem SgT.drews {bc : Nat} {Ba Bb : Nat} {A G B K : Nat → Int} {x y : Bool} {w wr : World} (s : SgT bc Ba Bb A G B K x y w wr) (n : Nat) : SgT bc Ba Bb A G B K x y w (wr.drewN n) := ⟨below_drewN s.below n, s.fc, s.fd, s.aB, s.gB, s.bB, s.kB⟩
theorem updG_bd (p h : Nat → Int) (r : Int) (i : Nat) : -1152921504606846976 ≤ updG p h r i ∧ updG p h r i ≤ 1152921504606846976 := by unfold updG upG; exact divV_bd _ _ _
set_option maxHeartbeats 4000000 in
theorem sign_walk (p H : Nat → Int) (r : Int) (w : World) :
    Calls Try.prog 4 #[.agg (arrv 300 p), .agg (arrv 24 H), .int .i64 r] w fun e w' => e = .returned (.bool true) ∧ Below w.heap.size w w' := by
  go_enter Try.func4, Try.ntmps4
  obtain ⟨W0, hW0⟩ : ∃ x, (w.alloc (.cells (arrv 300 p) 25)).alloc (.cells (arrv 24 H) 31) = x := ⟨_, rfl⟩
  have P0 : Blk W0 w.heap.size 25 300 p := by rw [← hW0]; exact (Blk.new w _ _ _).alloc _
  have H0 : Blk W0 (w.heap.size + 1) 31 24 H := by rw [← hW0]; exact Blk.new1 w _ _ _ _
  have B0 : Below w.heap.size w W0 := by rw [← hW0]; exact ((Below.refl _ _).alloc (Nat.le_refl _) _).alloc (by simp) _
  go_upto_region 3 with (go_at_call 8; (refine (awake_any _).mono ?_); rintro e w1 ⟨rfl, hb1⟩; have P1 := Lib.hid (P0.below hb1); have H1 := Lib.hid (H0.below hb1); have B1 := Lib.hid (Below.after B0 hb1); clear hb1)
  have R3 : Blk (w1.alloc (.cells #[.int .i64 0, .int .i64 0, .int .i64 0, .int .i64 0, .int .i64 0, .int .i64 0, .int .i64 0, .int .i64 0, .int .i64 0, .int .i64 0, .int .i64 0, .int .i64 0, .int .i64 0, .int .i64 0, .int .i64 0, .int .i64 0, .int .i64 0, .int .i64 0, .int .i64 0, .int .i64 0, .int .i64 0, .int .i64 0, .int .i64 0, .int .i64 0] 31)) w1.heap.size 31 24 (fun _ => 0) := by rw [zrow]; exact Blk.new _ _ _ _
  have hbn : w.heap.size + 1 < w1.heap.size := H1.out.lt
  refine wp_region_lit ?_
  refine wpList_val (v := ?_) rfl ?_ ?_
  rotate_left
  · (go_simp; rw [zrow])
  (try simp only [Act.put, List.setIfInBounds_toArray, List.set_cons_zero, List.set_cons_succ])
  refine wpList_act (v := ?_) (w' := ?_) rfl ?_ ?_
  rotate_left 2
  · (go_simp; (try (first | with_reducible rfl | (constructor <;> with_reducible rfl))))
  (try simp only [Act.put, List.setIfInBounds_toArray, List.set_cons_zero, List.set_cons_succ])
  refine wpList_done (w' := ?_) rfl ?_ ?_
  rotate_left
  · refine Eq.trans (run_store_row 31 (.tmp 7) (.tmp 20) (by rfl) (w1.heap.size) (by rfl) (by rfl) (R3) (irow.trans rfl)) ?_; with_reducible rfl
  (try simp only [Act.put, List.setIfInBounds_toArray, List.set_cons_zero, List.set_cons_succ])
  refine wpList_nil ?_
  obtain ⟨bn, hbn'⟩ : ∃ x, w1.heap.size = x := ⟨_, rfl⟩
  have S3 : SgR H p bn 0 w ((w1.alloc (.cells #[.int .i64 0, .int .i64 0, .int .i64 0, .int .i64 0, .int .i64 0, .int .i64 0, .int .i64 0, .int .i64 0, .int .i64 0, .int .i64 0, .int .i64 0, .int .i64 0, .int .i64 0, .int .i64 0, .int .i64 0, .int .i64 0, .int .i64 0, .int .i64 0, .int .i64 0, .int .i64 0, .int .i64 0, .int .i64 0, .int .i64 0, .int .i64 0] 31)).setRow w1.heap.size (arrv 24 (fun _ => 0))) := by
    refine ⟨below_row (B1.out.alloc B1.out.size _) (by omega) _, (P1.out.alloc _).setRow_other _ (by omega), (H1.out.alloc _).setRow_other _ (by omega), ?_, fun i hi => by omega⟩
    rw [hbn', show ngF H 0 = fun _ => 0 from by funext i; simp [ngF]]
    rw [hbn'] at R3
    exact R3.setRow _
  have S3 := Lib.hid S3
  rw [hbn'] at S3 hbn ⊢
  generalize (w1.alloc (.cells #[.int .i64 0, .int .i64 0, .int .i64 0, .int .i64 0, .int .i64 0, .int .i64 0, .int .i64 0, .int .i64 0, .int .i64 0, .int .i64 0, .int .i64 0, .int .i64 0, .int .i64 0, .int .i64 0, .int .i64 0, .int .i64 0, .int .i64 0, .int .i64 0, .int .i64 0, .int .i64 0, .int .i64 0, .int .i64 0, .int .i64 0, .int .i64 0] 31)).setRow bn (arrv 24 (fun _ => 0)) = W3 at *
  clear P0 H0 B0 P1 H1 B1 R3 hbn' hW0
  go_wp2_with fail
  go_loopw [8] (fun i wr => ∃ k : Nat, k ≤ 24 ∧ i = .int .i64 k ∧ Hid (SgR H p bn k w wr)) (fun i _ => 24 - (intOf i).toNat)
  case atStart => exact ⟨0, by omega, rfl, S3⟩
  case round =>
    obtain ⟨k, hk, rfl, R⟩ := hrel
    by_cases hlt : k < 24
    · have d1 : decide ((k : Int) < 24) = true := by simp; omega
      have m0 := R.out.hB.cell (i := k) (by omega)
      have m1 := R.out.nB.cell (i := k) (by omega)
      have m2 := R.out.nB.free k
      by_cases h1 : H k < -1152921504606846976
      · have q1 : decide (H k < -1152921504606846976) = true := by simpa using h1
        go_wp2_with fail
        go_ret
        exact ⟨rfl, R.out.below⟩
      · by_cases h2 : 1152921504606846976 < H k
        · have q1 : decide (H k < -1152921504606846976) = false := by simpa using h1
          have q2 : decide (1152921504606846976 < H k) = true := by simpa using h2
          go_wp2_with fail
          go_ret
          exact ⟨rfl, R.out.below⟩
        · have q1 : decide (H k < -1152921504606846976) = false := by simpa using h1
          have q2 : decide (1152921504606846976 < H k) = false := by simpa using h2
          have q3 : IntKind.i64.wrap (-H k) = -H k := IntWalk.i64_in _ (by omega)
          go_wp2_with fail
          go_roundw
          case rel =>
            refine ⟨k + 1, by omega, by go_num, R.out.below.setCell (by simp; omega) _, R.out.pB.other (by simp; omega) _, R.out.hB.other (by simp; omega) _, (R.out.nB.set _ _).congr fun i hi => ?_, fun i hi => ?_⟩
            · simp only [Go.Proofs.Ytkfapackpggagaa.upd, ngF]
              by_cases e : i = k
              · subst e; rw [if_pos rfl, if_pos (by omega)]
              · rw [if_neg e]; split <;> split <;> first | rfl | omega
            · by_cases e : i = k
              · subst e; omega
              · exact R.out.bd i (by omega)
          case measure => simp [intOf]; omega
    · have hk24 : k = 24 := by omega
      subst hk24
      have HB := Lib.hid R.out.below
      have HP := Lib.hid R.out.pB
      have HH := Lib.hid R.out.hB
      have HN := Lib.hid (R.out.nB.congr (g := fun i => -H i) fun i hi => by simp [ngF, hi])
      clear R S3 hlt hk
      obtain ⟨bc, hbc⟩ : ∃ x, wr.heap.size = x := ⟨_, rfl⟩
      have hbp : bn < bc := by rw [← hbc]; exact HN.out.lt
      obtain ⟨V0, hV0⟩ : ∃ x, (wr.alloc (.cells #[.bool false] 29)).alloc (.cells #[.bool false] 29) = x := ⟨_, rfl⟩
      have F0 : Flg V0 bc false := by rw [← hV0, ← hbc]; exact (Flg.new wr false).alloc _
      have E0 : Flg V0 (bc + 1) false := by rw [← hV0, ← hbc]; exact heap_alloc2_new wr _ _
      have B0 : Below w.heap.size w V0 := by rw [← hV0]; exact (HB.out.alloc HB.out.size _).alloc (by have := HB.out.size; simp; omega) _
      have P0 : Blk V0 w.heap.size 25 300 p := by rw [← hV0]; exact (HP.out.alloc _).alloc _
      have H0 : Blk V0 (w.heap.size + 1) 31 24 H := by rw [← hV0]; exact (HH.out.alloc _).alloc _
      have N0 : Blk V0 bn 31 24 (fun i => -H i) := by rw [← hV0]; exact (HN.out.alloc _).alloc _
      clear HB HP HH HN
      obtain ⟨s1, s2, s3, s4⟩ := upd_sign p H r
      have gb := updG_bd p (fun i => -H i) r
      obtain ⟨SV, hSV⟩ : ∃ x, updS p H r = x := ⟨_, rfl⟩
      obtain ⟨Fa, hFa⟩ : ∃ x, updP p H r = x := ⟨_, rfl⟩
      obtain ⟨Ga, hGa⟩ : ∃ x, updG p H r = x := ⟨_, rfl⟩
      obtain ⟨Fl, hFl⟩ : ∃ x, updH p H r = x := ⟨_, rfl⟩
      obtain ⟨Gb, hGb⟩ : ∃ x, updG p (fun i => -H i) r = x := ⟨_, rfl⟩
      have U1 := update_any ⟨bc, 0, none⟩ false p H r V0 F0.cell F0.free
      rw [hSV, hFa, hGa, hFl] at U1
      have U1 := Lib.hid U1
      have U2 := Lib.hid (update_any ⟨bc + 1, 0, none⟩ false p (fun i => -H i) r)
      rw [s1, s3, s4, hSV, hFa, hFl, hGb] at U2
      rw [hGa, hGb] at s2
      rw [hGb] at gb
      have hG := Lib.hid (And.intro s2 gb)
      clear s1 s2 s3 s4 gb hSV hFa hGa hFl hGb
      rw [show ((24 : Nat) : Int) = 24 from rfl]
      go_upto_region 12 with fail
      go_upto_region 13 with (first | (refine wpList_load_row rfl 25 _ rfl (w.heap.size) rfl 25 _ (0, 0) _ (P0) Try.underlying25 rfl (icov.trans (by rw [arrv_size])) ?_) | (refine wpList_load_row rfl 31 _ rfl (w.heap.size + 1) rfl 31 _ (0, 0) _ (H0) Try.underlying31 rfl (irow.trans (by rw [arrv_size])) ?_) | (go_at_call 10; (refine U1.out.mono ?_); rintro e w5 ⟨rfl, hu5⟩; have F5 := Lib.hid (F0.hit hu5); have E5 := Lib.hid (E0.upd hu5 (by show bc + 1 ≠ bc; omega)); have P5 := Lib.hid (P0.upd hu5 (by show w.heap.size ≠ bc; omega)); have N5 := Lib.hid (N0.upd hu5 (by show bn ≠ bc; omega)); have B5 := Lib.hid (own_upd B0 (by show w.heap.size ≤ bc; omega) hu5); (have RA : Blk ((w5.alloc (.cells Try.zeroCells25 25)).alloc (.cells #[.int .i64 0, .int .i64 0, .int .i64 0, .int .i64 0, .int .i64 0, .int .i64 0, .int .i64 0, .int .i64 0, .int .i64 0, .int .i64 0, .int .i64 0, .int .i64 0, .int .i64 0, .int .i64 0, .int .i64 0, .int .i64 0, .int .i64 0, .int .i64 0, .int .i64 0, .int .i64 0, .int .i64 0, .int .i64 0, .int .i64 0, .int .i64 0] 31)) w5.heap.size 25 300 (fun _ => 0) := (by rw [zcov]; exact (Blk.new _ _ _ _).alloc _); have RB : Blk (((w5.alloc (.cells Try.zeroCells25 25)).alloc (.cells #[.int .i64 0, .int .i64 0, .int .i64 0, .int .i64 0, .int .i64 0, .int .i64 0, .int .i64 0, .int .i64 0, .int .i64 0, .int .i64 0, .int .i64 0, .int .i64 0, .int .i64 0, .int .i64 0, .int .i64 0, .int .i64 0, .int .i64 0, .int .i64 0, .int .i64 0, .int .i64 0, .int .i64 0, .int .i64 0, .int .i64 0, .int .i64 0] 31)).setRow w5.heap.size (arrv 300 (Fa))) (w5.heap.size + 1) 31 24 (fun _ => 0) := (by rw [zrow]; exact (Blk.new1 _ _ _ _ _).setRow_other _ (by omega))); clear hu5) | (refine wpList_store_row rfl 25 _ _ rfl (w5.heap.size) _ rfl rfl 25 _ (RA) (icov.trans (by rw [arrv_size])) (by rw [arrv_size, arrv_size]) (oneCell_arrv _ _) ?_) | (refine wpList_store_row rfl 31 _ _ rfl (w5.heap.size + 1) _ rfl rfl 31 _ (RB) (irow.trans (by rw [arrv_size])) (by rw [arrv_size, arrv_size]) (oneCell_arrv _ _) ?_))
      obtain ⟨w6, hw6⟩ : ∃ x, x = ((((w5.alloc (.cells Try.zeroCells25 25)).alloc (.cells #[.int .i64 0, .int .i64 0, .int .i64 0, .int .i64 0, .int .i64 0, .int .i64 0, .int .i64 0, .int .i64 0, .int .i64 0, .int .i64 0, .int .i64 0, .int .i64 0, .int .i64 0, .int .i64 0, .int .i64 0, .int .i64 0, .int .i64 0, .int .i64 0, .int .i64 0, .int .i64 0, .int .i64 0, .int .i64 0, .int .i64 0, .int .i64 0] 31)).setRow w5.heap.size (arrv 300 (Fa))).setRow (w5.heap.size + 1) (arrv 24 (Ga))) := ⟨_, rfl⟩; rw [← hw6]; obtain ⟨Z0, Z1, ZB⟩ := two_made _ _ hw6; clear hw6
      have F6 := Lib.hid (F5.out.below ZB)
      have E6 := E5.out.below ZB
      have P6 := P5.out.below ZB
      have N6 := N5.out.below ZB
      have B6 := Lib.hid (Below.after B5.out ZB)
      have A6 := Lib.hid Z0
      have G6 := Lib.hid Z1
      have hba : bc + 1 < w5.heap.size := E5.out.lt
      obtain ⟨ba, hba'⟩ : ∃ x, w5.heap.size = x := ⟨_, rfl⟩
      rw [hba'] at A6 G6 hba ⊢
      clear hba' RA RB U1 F0 E0 P0 N0 B0 H0 F5 E5 P5 N5 B5 Z0 Z1 ZB
      have U6 := Lib.hid (U2.out w6 E6.cell E6.free)
      go_upto_region 14 with (first | (refine wpList_load_row rfl 25 _ rfl (w.heap.size) rfl 25 _ (0, 0) _ (P6) Try.underlying25 rfl (icov.trans (by rw [arrv_size])) ?_) | (refine wpList_load_row rfl 31 _ rfl (bn) rfl 31 _ (0, 0) _ (N6) Try.underlying31 rfl (irow.trans (by rw [arrv_size])) ?_) | (go_at_call 10; (refine U6.out.mono ?_); rintro e w7 ⟨rfl, hu7⟩; have F7 := Lib.hid (F6.out.upd hu7 (by show bc ≠ bc + 1; omega)); have E7 := Lib.hid (E6.hit hu7); have A7 := Lib.hid (A6.out.upd hu7 (by show ba ≠ bc + 1; omega)); have G7 := Lib.hid (G6.out.upd hu7 (by show ba + 1 ≠ bc + 1; omega)); have B7 := Lib.hid (own_upd B6.out (by show w.heap.size ≤ bc + 1; omega) hu7); (have RA : Blk ((w7.alloc (.cells Try.zeroCells25 25)).alloc (.cells #[.int .i64 0, .int .i64 0, .int .i64 0, .int .i64 0, .int .i64 0, .int .i64 0, .int .i64 0, .int .i64 0, .int .i64 0, .int .i64 0, .int .i64 0, .int .i64 0, .int .i64 0, .int .i64 0, .int .i64 0, .int .i64 0, .int .i64 0, .int .i64 0, .int .i64 0, .int .i64 0, .int .i64 0, .int .i64 0, .int .i64 0, .int .i64 0] 31)) w7.heap.size 25 300 (fun _ => 0) := (by rw [zcov]; exact (Blk.new _ _ _ _).alloc _); have RB : Blk (((w7.alloc (.cells Try.zeroCells25 25)).alloc (.cells #[.int .i64 0, .int .i64 0, .int .i64 0, .int .i64 0, .int .i64 0, .int .i64 0, .int .i64 0, .int .i64 0, .int .i64 0, .int .i64 0, .int .i64 0, .int .i64 0, .int .i64 0, .int .i64 0, .int .i64 0, .int .i64 0, .int .i64 0, .int .i64 0, .int .i64 0, .int .i64 0, .int .i64 0, .int .i64 0, .int .i64 0, .int .i64 0] 31)).setRow w7.heap.size (arrv 300 (Fa))) (w7.heap.size + 1) 31 24 (fun _ => 0) := (by rw [zrow]; exact (Blk.new1 _ _ _ _ _).setRow_other _ (by omega))); clear hu7) | (refine wpList_store_row rfl 25 _ _ rfl (w7.heap.size) _ rfl rfl 25 _ (RA) (icov.trans (by rw [arrv_size])) (by rw [arrv_size, arrv_size]) (oneCell_arrv _ _) ?_) | (refine wpList_store_row rfl 31 _ _ rfl (w7.heap.size + 1) _ rfl rfl 31 _ (RB) (irow.trans (by rw [arrv_size])) (by rw [arrv_size, arrv_size]) (oneCell_arrv _ _) ?_))
      obtain ⟨w8, hw8⟩ : ∃ x, x = ((((w7.alloc (.cells Try.zeroCells25 25)).alloc (.cells #[.int .i64 0, .int .i64 0, .int .i64 0, .int .i64 0, .int .i64 0, .int .i64 0, .int .i64 0, .int .i64 0, .int .i64 0, .int .i64 0, .int .i64 0, .int .i64 0, .int .i64 0, .int .i64 0, .int .i64 0, .int .i64 0, .int .i64 0, .int .i64 0, .int .i64 0, .int .i64 0, .int .i64 0, .int .i64 0, .int .i64 0, .int .i64 0] 31)).setRow w7.heap.size (arrv 300 (Fa))).setRow (w7.heap.size + 1) (arrv 24 (Gb))) := ⟨_, rfl⟩; rw [← hw8]; obtain ⟨N0, N1, NB⟩ := two_made _ _ hw8; clear hw8
      obtain ⟨bb, hbb⟩ : ∃ x, w7.heap.size = x := ⟨_, rfl⟩
      rw [hbb] at N0 N1 ⊢
      have T8 : Hid (SgT bc ba bb Fa Ga Fa Gb (false || Fl) (false || Fl) w w8) := Lib.hid ⟨Below.after B7.out NB, F7.out.below NB, E7.out.below NB, A7.out.below NB, G7.out.below NB, N0, N1⟩
      clear hbb RA RB U6 F6 E6 P6 N6 B6 A6 G6 F7 E7 A7 G7 B7 N0 N1 NB
      go_wp2_with fail
      go_loopw [17] (fun i wr => ∃ k : Nat, k ≤ 24 ∧ i = .int .i64 k ∧ Hid (SgT bc ba bb Fa Ga Fa Gb (false || Fl) (false || Fl) w wr)) (fun i _ => 24 - (intOf i).toNat)
      case atStart => exact ⟨0, by omega, rfl, T8⟩
      case round =>
        obtain ⟨k, hk, rfl, R⟩ := hrel
        by_cases hlt : k < 24
        · have d1 : decide ((k : Int) < 24) = true := by simp; omega
          have m0 := R.out.gB.cell (i := k) (by omega)
          have m1 := R.out.kB.cell (i := k) (by omega)
          have x1 := hG.out.1 k
          have x2 := hG.out.2 k
          obtain ⟨GV, hGV⟩ : ∃ x, Ga k = x := ⟨_, rfl⟩
          obtain ⟨KV, hKV⟩ : ∃ x, Gb k = x := ⟨_, rfl⟩
          rw [hGV] at m0 x1
          rw [hKV] at m1 x1 x2
          have q3 : IntKind.i64.wrap (-KV) = GV := by rw [IntWalk.i64_in _ (by omega)]; omega
          clear hGV hKV x1 x2
          go_upto_region 17 with fail
          go_quiet (fail)
          go_wp2_with fail
          go_roundw
          case rel => exact ⟨k + 1, by omega, by go_num, Lib.hid (R.out.drews _)⟩
          case measure => simp [intOf]; omega
        · have hk24 : k = 24 := by omega
          subst hk24
          have HR := R
          clear R T8
          rw [show ((24 : Nat) : Int) = 24 from rfl]
          go_upto_region 19 with fail
          refine wp_region_M (fun w' => Blk w' ba 25 300 Fa ∧ Blk w' bb 25 300 Fa ∧ Flg w' bc (false || Fl) ∧ Flg w' (bc + 1) (false || Fl)) 19 (by kernel_rfl) ?_ (fun hHeld => ?_)
          · exact ⟨HR.out.aB, HR.out.bB, HR.out.fc, HR.out.fd⟩
          refine wpAnyM_take 0 (v := ?_) rfl (by kernel_rfl) (fun _ _ _ h => h) (Or.inl ⟨by rfl, ?_⟩) (by assumption) ?_
          rotate_left
          · (intro wx hSw; refine Eq.trans (run_load_row 25 (.tmp 11) (by rfl) (ba) (by rfl) _ _ _ _ (hSw.1) Try.underlying25 rfl (icov.trans (by rw [arrv_size]))) ?_; with_reducible rfl)
          (try simp only [Act.put, List.setIfInBounds_toArray, List.set_cons_zero, List.set_cons_succ])
          refine wpAnyM_take 1 (v := ?_) rfl (by kernel_rfl) (fun _ _ _ h => h) (Or.inl ⟨by rfl, ?_⟩) (by assumption) ?_
          rotate_left
          · (intro wx hSw; refine Eq.trans (run_load_row 25 (.tmp 14) (by rfl) (bb) (by rfl) _ _ _ _ (hSw.2.1) Try.underlying25 rfl (icov.trans (by rw [arrv_size]))) ?_; with_reducible rfl)
          (try simp only [Act.put, List.setIfInBounds_toArray, List.set_cons_zero, List.set_cons_succ])
          refine wpAnyM_take 2 (v := ?_) rfl (by kernel_rfl) (fun _ _ _ h => h) (Or.inl ⟨by rfl, ?_⟩) (by assumption) ?_
          rotate_left
          · (intro wx hSw; refine Eq.trans (run_op_eqlCov (.tmp 75) (.tmp 76) (by rfl) (by rfl) (by rfl) (covB_self Fa)) ?_; with_reducible rfl)
          (try simp only [Act.put, List.setIfInBounds_toArray, List.set_cons_zero, List.set_cons_succ])
          refine wpAnyM_take 3 (v := ?_) rfl (by kernel_rfl) (fun _ _ _ h => h) (Or.inl ⟨by rfl, ?_⟩) (by assumption) ?_
          rotate_left
          · (intro wx hSw; (try dsimp only at hSw); go_simp; (try with_reducible rfl))
          (try simp only [Act.put, List.setIfInBounds_toArray, List.set_cons_zero, List.set_cons_succ])
          first | (refine wpAnyM_take 4 (v := ?_) rfl (by kernel_rfl) (fun _ _ _ h => h) (Or.inl ⟨by rfl, ?_⟩) (by assumption) ?_; rotate_left; focus ((intro wx hSw; (try dsimp only at hSw); go_simp; (try with_reducible rfl)))) | (refine wpAnyM_take 4 rfl (by kernel_rfl) (fun _ _ _ h => h) (Or.inr ⟨by rfl, rfl⟩) (by assumption) ?_)
          (try simp only [Act.put, List.setIfInBounds_toArray, List.set_cons_zero, List.set_cons_succ])
          first | (refine wpAnyM_take 5 (v := ?_) rfl (by kernel_rfl) (fun _ _ _ h => h) (Or.inl ⟨by rfl, ?_⟩) (by assumption) ?_; rotate_left; focus ((intro wx hSw; (try dsimp only at hSw); go_simp; (try with_reducible rfl)))) | (refine wpAnyM_take 5 rfl (by kernel_rfl) (fun _ _ _ h => h) (Or.inr ⟨by rfl, rfl⟩) (by assumption) ?_)
          (try simp only [Act.put, List.setIfInBounds_toArray, List.set_cons_zero, List.set_cons_succ])
          first | (refine wpAnyM_take 6 (v := ?_) rfl (by kernel_rfl) (fun _ _ _ h => h) (Or.inl ⟨by rfl, ?_⟩) (by assumption) ?_; rotate_left; focus ((intro wx hSw; go_simp; (try simp only [decide_true, beq_self_eq_true]); (try with_reducible rfl)))) | (refine wpAnyM_take 6 rfl (by kernel_rfl) (fun _ _ _ h => h) (Or.inr ⟨by rfl, rfl⟩) (by assumption) ?_)
          (try simp only [Act.put, List.setIfInBounds_toArray, List.set_cons_zero, List.set_cons_succ])
          refine wpAnyM_take 7 (v := ?_) rfl (by kernel_rfl) (fun _ _ _ h => h) (Or.inl ⟨by rfl, ?_⟩) (by assumption) ?_
          rotate_left
          · (intro wx hSw; (try dsimp only at hSw); go_simp; (try with_reducible rfl))
          (try simp only [Act.put, List.setIfInBounds_toArray, List.set_cons_zero, List.set_cons_succ])
          refine wpAnyM_take 8 (v := ?_) rfl (by kernel_rfl) (fun _ _ _ h => h) (Or.inl ⟨by rfl, ?_⟩) (by assumption) ?_
          rotate_left
          · (intro wx hSw; (try dsimp only at hSw); go_simp; (try with_reducible rfl))
          (try simp only [Act.put, List.setIfInBounds_toArray, List.set_cons_zero, List.set_cons_succ])
          first | (refine wpAnyM_take 9 (v := ?_) rfl (by kernel_rfl) (fun _ _ _ h => h) (Or.inl ⟨by rfl, ?_⟩) (by assumption) ?_; rotate_left; focus ((intro wx hSw; (try dsimp only at hSw); go_simp; (try with_reducible rfl)))) | (refine wpAnyM_take 9 rfl (by kernel_rfl) (fun _ _ _ h => h) (Or.inr ⟨by rfl, rfl⟩) (by assumption) ?_)
          (try simp only [Act.put, List.setIfInBounds_toArray, List.set_cons_zero, List.set_cons_succ])
          first | (refine wpAnyM_take 10 (v := ?_) rfl (by kernel_rfl) (fun _ _ _ h => h) (Or.inl ⟨by rfl, ?_⟩) (by assumption) ?_; rotate_left; focus ((intro wx hSw; (try dsimp only at hSw); go_simp; (try with_reducible rfl)))) | (refine wpAnyM_take 10 rfl (by kernel_rfl) (fun _ _ _ h => h) (Or.inr ⟨by rfl, rfl⟩) (by assumption) ?_)
          (try simp only [Act.put, List.setIfInBounds_toArray, List.set_cons_zero, List.set_cons_succ])
          first | (refine wpAnyM_take 11 (v := ?_) rfl (by kernel_rfl) (fun _ _ _ h => h) (Or.inl ⟨by rfl, ?_⟩) (by assumption) ?_; rotate_left; focus ((intro wx hSw; (try dsimp only at hSw); go_simp; (try with_reducible rfl)))) | (refine wpAnyM_take 11 rfl (by kernel_rfl) (fun _ _ _ h => h) (Or.inr ⟨by rfl, rfl⟩) (by assumption) ?_)
          (try simp only [Act.put, List.setIfInBounds_toArray, List.set_cons_zero, List.set_cons_succ])
          first | (refine wpAnyM_take 12 (v := ?_) rfl (by kernel_rfl) (fun _ _ _ h => h) (Or.inl ⟨by rfl, ?_⟩) (by assumption) ?_; rotate_left; focus ((intro wx hSw; have c1 := hSw.2.2.1.cell; clear hSw; go_simp; (try with_reducible rfl)))) | (refine wpAnyM_take 12 rfl (by kernel_rfl) (fun _ _ _ h => h) (Or.inr ⟨by rfl, rfl⟩) (by assumption) ?_)
          (try simp only [Act.put, List.setIfInBounds_toArray, List.set_cons_zero, List.set_cons_succ])
          first | (refine wpAnyM_take 13 (v := ?_) rfl (by kernel_rfl) (fun _ _ _ h => h) (Or.inl ⟨by rfl, ?_⟩) (by assumption) ?_; rotate_left; focus ((intro wx hSw; (try dsimp only at hSw); go_simp; (try with_reducible rfl)))) | (refine wpAnyM_take 13 rfl (by kernel_rfl) (fun _ _ _ h => h) (Or.inr ⟨by rfl, rfl⟩) (by assumption) ?_)
          (try simp only [Act.put, List.setIfInBounds_toArray, List.set_cons_zero, List.set_cons_succ])
          first | (refine wpAnyM_take 14 (v := ?_) rfl (by kernel_rfl) (fun _ _ _ h => h) (Or.inl ⟨by rfl, ?_⟩) (by assumption) ?_; rotate_left; focus ((intro wx hSw; (try dsimp only at hSw); go_simp; (try with_reducible rfl)))) | (refine wpAnyM_take 14 rfl (by kernel_rfl) (fun _ _ _ h => h) (Or.inr ⟨by rfl, rfl⟩) (by assumption) ?_)
          (try simp only [Act.put, List.setIfInBounds_toArray, List.set_cons_zero, List.set_cons_succ])
          first | (refine wpAnyM_take 15 (v := ?_) rfl (by kernel_rfl) (fun _ _ _ h => h) (Or.inl ⟨by rfl, ?_⟩) (by assumption) ?_; rotate_left; focus ((intro wx hSw; (try dsimp only at hSw); go_simp; (try with_reducible rfl)))) | (refine wpAnyM_take 15 rfl (by kernel_rfl) (fun _ _ _ h => h) (Or.inr ⟨by rfl, rfl⟩) (by assumption) ?_)
          (try simp only [Act.put, List.setIfInBounds_toArray, List.set_cons_zero, List.set_cons_succ])
          first | (refine wpAnyM_take 16 (v := ?_) rfl (by kernel_rfl) (fun _ _ _ h => h) (Or.inl ⟨by rfl, ?_⟩) (by assumption) ?_; rotate_left; focus ((intro wx hSw; have c2 := hSw.2.2.2.cell; clear hSw; go_simp; (try with_reducible rfl)))) | (refine wpAnyM_take 16 rfl (by kernel_rfl) (fun _ _ _ h => h) (Or.inr ⟨by rfl, rfl⟩) (by assumption) ?_)
          (try simp only [Act.put, List.setIfInBounds_toArray, List.set_cons_zero, List.set_cons_succ])
          first | (refine wpAnyM_take 17 (v := ?_) rfl (by kernel_rfl) (fun _ _ _ h => h) (Or.inl ⟨by rfl, ?_⟩) (by assumption) ?_; rotate_left; focus ((intro wx hSw; go_simp; (try simp only [decide_true, beq_self_eq_true]); (try with_reducible rfl)))) | (refine wpAnyM_take 17 rfl (by kernel_rfl) (fun _ _ _ h => h) (Or.inr ⟨by rfl, rfl⟩) (by assumption) ?_)
          (try simp only [Act.put, List.setIfInBounds_toArray, List.set_cons_zero, List.set_cons_succ])
          refine wpAnyM_take 18 (v := ?_) rfl (by kernel_rfl) (fun _ _ _ h => h) (Or.inl ⟨by rfl, ?_⟩) (by assumption) ?_
          rotate_left
          · (intro wx hSw; (try dsimp only at hSw); go_simp; (try with_reducible rfl))
          (try simp only [Act.put, List.setIfInBounds_toArray, List.set_cons_zero, List.set_cons_succ])
          refine wpAnyM_one 19 rfl (by kernel_rfl) (fun K hK => ?_)
          go_simp
          refine hK.out _ _ (.inl (by kernel_rfl)) (fun _ => ?_)
          clear hK K
          (try simp only [Act.put, List.setIfInBounds_toArray, List.set_cons_zero, List.set_cons_succ])
          refine wpAnyM_done (by kernel_rfl) ?_ _
          go_wp2_with fail
          go_ret
          exact ⟨rfl, HR.out.below.drew⟩
end Go.Proofs.Ytkfapackpggagaa
