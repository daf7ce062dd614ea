/- The walk of StrapBias (2). -/
import Derived.Test.YtnnjcdbliaecgaaBias16W
namespace Go.Proofs.Ytnnjcdbliaecgaa
open Go.RowKit
set_option maxRecDepth 100000
set_option maxHeartbeats 4000000 in
theorem bias16_no (X Y : Nat → Int) (us : Int) (w : World) (h : us < 1000 ∨ 100000 < us) :
    Calls Try.prog 6 #[.agg (arrv 3 X), .agg (arrv 3 Y), .int .i64 us] w fun e w' => e = .returned (.bool true) ∧ Below w.heap.size w w' := by
  have B0 := Lib.hid (show Below w.heap.size w ((w.alloc (.cells (arrv 3 X) 29)).alloc (.cells (arrv 3 Y) 29)) by (repeat (first | with_reducible exact Below.refl _ _ | with_reducible apply Below.drew | (with_reducible refine below_drewN ?_ _) | (with_reducible refine Below.alloc ?_ (by (try simp) <;> omega) _) | (with_reducible refine Below.setCell ?_ (by (try simp) <;> omega) _))))
  have cs : decide (us < 1000) = true ∨ (decide (us < 1000) = false ∧ decide (100000 < us) = true) := by
    by_cases h1 : us < 1000
    · exact .inl (by simpa using h1)
    · exact .inr ⟨by simpa using h1, by simp; omega⟩
  clear h
  go_enter Try.func6, Try.ntmps6
  go_upto_region 3 with (go_at_call 8; (refine (awake16_any _).mono ?_); rintro e w1 ⟨rfl, hb1⟩)
  have B1 := Lib.hid (Below.after B0.out hb1)
  clear hb1 B0
  rcases cs with d1 | ⟨d1, d2⟩
  all_goals
    go_wp2_with fail
    go_ret
    exact ⟨rfl, B1.out⟩
theorem bw_start (X Y : Nat → Int) (w w1 : World) (hb : Below ((w.alloc (.cells (arrv 3 X) 29)).alloc (.cells (arrv 3 Y) 29)).heap.size ((w.alloc (.cells (arrv 3 X) 29)).alloc (.cells (arrv 3 Y) 29)) w1) :
    Below w.heap.size w w1 ∧ Blk w1 w.heap.size 29 3 X ∧ Blk w1 (w.heap.size + 1) 29 3 Y ∧ w.heap.size + 1 < w1.heap.size := by
  have bl : Below w.heap.size w ((w.alloc (.cells (arrv 3 X) 29)).alloc (.cells (arrv 3 Y) 29)) := by (repeat (first | with_reducible exact Below.refl _ _ | with_reducible apply Below.drew | (with_reducible refine below_drewN ?_ _) | (with_reducible refine Below.alloc ?_ (by (try simp) <;> omega) _) | (with_reducible refine Below.setCell ?_ (by (try simp) <;> omega) _)))
  have z := hb.size
  simp at z
  exact ⟨bl.trans (hb.mono bl.size), ((Blk.new w _ 3 X).alloc _).below hb, (Blk.new1 w _ _ 3 Y).below hb, by omega⟩
/-- The flag, the estimate laid. -/
structure BvR (bc sb : Nat) (X Y S : Nat → Int) (w wr : World) : Prop where
  below : Below w.heap.size w wr
  fl : Flg wr bc false
  g : Blk wr w.heap.size 29 3 X
  a : Blk wr (w.heap.size + 1) 29 3 Y
  s : Blk wr sb 27 24 S
  lt : w.heap.size + 1 < bc ∧ bc < sb
theorem BvR.down {bc sb : Nat} {X Y S : Nat → Int} {w wr w' : World} (s : BvR bc sb X Y S w wr) (k : Below wr.heap.size wr w') : BvR bc sb X Y S w w' := ⟨s.below.trans (k.mono s.below.size), s.fl.below k, s.g.below k, s.a.below k, s.s.below k, s.lt⟩
theorem bv_new {X Y : Nat → Int} {w w1 : World} (h : Below w.heap.size w w1 ∧ Blk w1 w.heap.size 29 3 X ∧ Blk w1 (w.heap.size + 1) 29 3 Y ∧ w.heap.size + 1 < w1.heap.size) (S : Nat → Int) :
    BvR w1.heap.size (w1.heap.size + 1) X Y S w (((w1.alloc (.cells #[.bool false] 25)).alloc (.cells #[.int .i64 0, .int .i64 0, .int .i64 0, .int .i64 0, .int .i64 0, .int .i64 0, .int .i64 0, .int .i64 0, .int .i64 0, .int .i64 0, .int .i64 0, .int .i64 0, .int .i64 0, .int .i64 0, .int .i64 0, .int .i64 0, .int .i64 0, .int .i64 0, .int .i64 0, .int .i64 0, .int .i64 0, .int .i64 0, .int .i64 0, .int .i64 0] 27)).setRow (w1.heap.size + 1) (arrv 24 S)) := by
  obtain ⟨h1, h2, h3, h4⟩ := h
  have b1 : Blk ((w1.alloc (.cells #[.bool false] 25)).alloc (.cells #[.int .i64 0, .int .i64 0, .int .i64 0, .int .i64 0, .int .i64 0, .int .i64 0, .int .i64 0, .int .i64 0, .int .i64 0, .int .i64 0, .int .i64 0, .int .i64 0, .int .i64 0, .int .i64 0, .int .i64 0, .int .i64 0, .int .i64 0, .int .i64 0, .int .i64 0, .int .i64 0, .int .i64 0, .int .i64 0, .int .i64 0, .int .i64 0] 27)) (w1.heap.size + 1) 27 24 (fun _ => 0) := by rw [zvec24]; exact Blk.new1 w1 _ _ 24 _
  exact ⟨below_row ((h1.alloc h1.size _).alloc (by have := h1.size; simp; omega) _) (by have := h1.size; omega) _, ((Flg.new w1 false).alloc _).row _ (by omega), ((h2.alloc _).alloc _).setRow_other _ (by omega), ((h3.alloc _).alloc _).setRow_other _ (by omega), b1.setRow S, h4, by omega⟩
theorem bw_new {bc sb : Nat} {X Y S : Nat → Int} {w wr : World} (s : BvR bc sb X Y S w wr) (I : Nat → Int) :
    Blk (wr.alloc (.cells #[.int .i64 0, .int .i64 0, .int .i64 0, .int .i64 0, .int .i64 0, .int .i64 0, .int .i64 0, .int .i64 0] 31)) wr.heap.size 31 8 (fun _ => 0) ∧ BwR bc sb wr.heap.size X Y S I w ((wr.alloc (.cells #[.int .i64 0, .int .i64 0, .int .i64 0, .int .i64 0, .int .i64 0, .int .i64 0, .int .i64 0, .int .i64 0] 31)).setRow wr.heap.size (arrv 8 I)) := by
  have b0 : Blk (wr.alloc (.cells #[.int .i64 0, .int .i64 0, .int .i64 0, .int .i64 0, .int .i64 0, .int .i64 0, .int .i64 0, .int .i64 0] 31)) wr.heap.size 31 8 (fun _ => 0) := by rw [zp8]; exact Blk.new _ _ _ _
  have hs := s.s.lt
  have hl := s.lt
  have s2 := s.down ((Below.refl wr.heap.size wr).alloc (Nat.le_refl _) (.cells #[.int .i64 0, .int .i64 0, .int .i64 0, .int .i64 0, .int .i64 0, .int .i64 0, .int .i64 0, .int .i64 0] 31))
  exact ⟨b0, ⟨below_row s2.below s.below.size _, s2.fl.row _ (by omega), s2.g.setRow_other _ (by omega), s2.a.setRow_other _ (by omega), s2.s.setRow_other _ (by omega), b0.setRow I, hl.1, hl.2, hs⟩⟩
set_option maxHeartbeats 32000000 in
theorem bias16_yes (X Y : Nat → Int) (us : Int) (w : World) (h1 : 1000 ≤ us) (h2 : us ≤ 100000) :
    Calls Try.prog 6 #[.agg (arrv 3 X), .agg (arrv 3 Y), .int .i64 us] w fun e w' => e = .returned (.bool true) ∧ Below w.heap.size w w' := by
  have GS := Lib.hid (fun (w1 : World) hb => bw_start X Y w w1 hb)
  obtain ⟨G, hG⟩ : ∃ G : Nat → Int, (fun j => (X j).tmod 134217728) = G := ⟨_, rfl⟩
  obtain ⟨D, hD⟩ : ∃ D : Nat → Int, (fun j => (Y j).tmod 1073741824) = D := ⟨_, rfl⟩
  have bG : ∀ k, -134217727 ≤ G k ∧ G k ≤ 134217727 := fun k => by
    rw [← hG]
    have a := Int.tmod_lt_of_pos (X k) (show (0 : Int) < 134217728 by decide)
    have b := Int.tmod_lt_of_pos (-(X k)) (show (0 : Int) < 134217728 by decide)
    rw [Int.neg_tmod] at b
    show -134217727 ≤ (X k).tmod 134217728 ∧ (X k).tmod 134217728 ≤ 134217727
    omega
  have bD : ∀ k, -1073741823 ≤ D k ∧ D k ≤ 1073741823 := fun k => by
    rw [← hD]
    have a := Int.tmod_lt_of_pos (Y k) (show (0 : Int) < 1073741824 by decide)
    have b := Int.tmod_lt_of_pos (-(Y k)) (show (0 : Int) < 1073741824 by decide)
    rw [Int.neg_tmod] at b
    show -1073741823 ≤ (Y k).tmod 1073741824 ∧ (Y k).tmod 1073741824 ≤ 1073741823
    omega
  have tG := Lib.hid (show ∀ k, (X k).tmod 134217728 = G k from fun k => by rw [← hG])
  have tD := Lib.hid (show ∀ k, (Y k).tmod 1073741824 = D k from fun k => by rw [← hD])
  have BG := Lib.hid bG
  have BD := Lib.hid bD
  have ST := Lib.hid (bias_step (G := cutK G 3) (A := cutK D 3) h1 h2 (fun k hk => by unfold cutK; rw [if_pos hk]; exact bG k) (fun k hk => by unfold cutK; rw [if_pos hk]; exact bD k))
  have sb := sec_bd h1 h2
  have NS := Lib.hid (fun (k : Nat) (hk : k < 3) => bw_S G D hk)
  have NI := Lib.hid (fun (k : Nat) (hk : k < 3) => bw_I G D us hk)
  have N0 := Lib.hid (And.intro (bw_S0 G D) (bw_I0 G D us))
  have VI := Lib.hid (fun (k : Nat) (hk : k < 3) => biI_5 (cutK G k) (cutK D k) us hk)
  have TC := fun (c : Addr) (x : World) (k : x.cell? c = some (.bool false)) (f : x.frozen? c = false) => sec_any c false us x k f
  rw [sb.2.2] at TC
  obtain ⟨dt, hdt⟩ : ∃ x, secV us = x := ⟨_, rfl⟩
  rw [hdt] at sb TC NI VI
  have TC := Lib.hid TC
  have ug := up_g (dt := dt) (by omega) (by omega)
  obtain ⟨g, hg⟩ : ∃ x, mulV 10529810258 dt 30 = x := ⟨_, rfl⟩
  rw [hg] at ug VI
  have UG := Lib.hid (And.intro ug.2.1 ug.2.2.1)
  have MG := Lib.hid (fun (k : Nat) => (ml_small (a := G k) (b := dt) (X := 134217727) (Y := 107374183) (bG k) (by omega) (by decide) (by decide) (by decide)).2.1)
  have MD := Lib.hid (fun (k : Nat) => (ml_small (a := D k) (b := dt) (X := 1073741823) (Y := 107374183) (bD k) (by omega) (by decide) (by decide) (by decide)).2)
  have c1 : decide (us < 1000) = false := by simp; omega
  have c2 : decide (100000 < us) = false := by simp; omega
  have HDT := Lib.hid hdt
  clear hG hD bG bD ug hg sb hdt
  go_enter Try.func6, Try.ntmps6
  go_upto_region 5 with (go_at_call 8; (refine (awake16_any _).mono ?_); rintro e w1 ⟨rfl, hb1⟩)
  have S0 := Lib.hid (GS.out w1 hb1)
  clear hb1 GS
  go_upto_region 6 with fail
  refine wp_region_lit ?_
  refine wpList_val (v := ?_) rfl ?_ ?_
  rotate_left
  · (refine Eq.trans (run_build_st1 (.const (.int .i64 1073741824)) (by rfl) (by rfl)) ?_; with_reducible rfl)
  (try simp only [Act.put, nA, nB, nC])
  refine wpList_act (v := ?_) (w' := ?_) rfl ?_ ?_
  rotate_left 2
  · (go_simp; (try (first | with_reducible rfl | (constructor <;> with_reducible rfl))))
  (try simp only [Act.put, nA, nB, nC])
  refine wpList_done (w' := ?_) rfl ?_ ?_
  rotate_left
  · (refine Eq.trans (run_store_row 27 (.tmp 8) (.tmp 23) (by rfl) (w1.heap.size + 1) (by first | (simp; rfl) | rfl) (by rfl) (show Blk ((w1.alloc (.cells #[.bool false] 25)).alloc (.cells #[.int .i64 0, .int .i64 0, .int .i64 0, .int .i64 0, .int .i64 0, .int .i64 0, .int .i64 0, .int .i64 0, .int .i64 0, .int .i64 0, .int .i64 0, .int .i64 0, .int .i64 0, .int .i64 0, .int .i64 0, .int .i64 0, .int .i64 0, .int .i64 0, .int .i64 0, .int .i64 0, .int .i64 0, .int .i64 0, .int .i64 0, .int .i64 0] 27)) (w1.heap.size + 1) 27 24 (fun _ => 0) by rw [zvec24]; exact Blk.new1 w1 _ _ 24 _) (ist.trans rfl)) ?_; with_reducible rfl)
  (try simp only [Act.put, nA, nB, nC])
  refine wpList_nil ?_
  rw [show (fun i => if i = 0 then (1073741824 : Int) else 0) = oneS from rfl]
  have S1 := Lib.hid (bv_new S0.out oneS)
  generalize ((w1.alloc (.cells #[.bool false] 25)).alloc (.cells #[.int .i64 0, .int .i64 0, .int .i64 0, .int .i64 0, .int .i64 0, .int .i64 0, .int .i64 0, .int .i64 0, .int .i64 0, .int .i64 0, .int .i64 0, .int .i64 0, .int .i64 0, .int .i64 0, .int .i64 0, .int .i64 0, .int .i64 0, .int .i64 0, .int .i64 0, .int .i64 0, .int .i64 0, .int .i64 0, .int .i64 0, .int .i64 0] 27)).setRow (w1.heap.size + 1) (arrv 24 oneS) = W1 at *
  obtain ⟨bc, hbc⟩ : ∃ x, w1.heap.size = x := ⟨_, rfl⟩
  obtain ⟨eb, heb⟩ : ∃ x, w1.heap.size + 1 = x := ⟨_, rfl⟩
  rw [heb] at S1 ⊢
  rw [hbc] at S1 ⊢
  clear hbc heb S0
  go_upto_region 7 with fail
  refine wp_region_lit ?_
  refine wpList_val (v := ?_) rfl ?_ ?_
  rotate_left
  · (go_simp; (try (first | with_reducible rfl | (constructor <;> with_reducible rfl))))
  (try simp only [Act.put, nA, nB, nC])
  refine wpList_step (fun K hK => ?_)
  go_simp
  (refine (still_any us _).mono ?_); rintro e w2 ⟨rfl, hb⟩; have S2 := Lib.hid (S1.out.down hb); clear hb S1; have NB := Lib.hid (bw_new S2.out (stlF us))
  (try dsimp only)
  (try simp only [Act.put, nA, nB, nC])
  refine hK _ _ ?_
  clear hK K
  refine wpList_act (v := ?_) (w' := ?_) rfl ?_ ?_
  rotate_left 2
  · (go_simp; (try (first | with_reducible rfl | (constructor <;> with_reducible rfl))))
  (try simp only [Act.put, nA, nB, nC])
  refine wpList_done (w' := ?_) rfl ?_ ?_
  rotate_left
  · (refine Eq.trans (run_store_row 31 (.tmp 9) (.tmp 25) (by rfl) (w2.heap.size) (by rfl) (by rfl) NB.out.1 (iimu.trans rfl)) ?_; with_reducible rfl)
  (try simp only [Act.put, nA, nB, nC])
  refine wpList_nil ?_
  have S3 := Lib.hid NB.out.2
  generalize (w2.alloc (.cells #[.int .i64 0, .int .i64 0, .int .i64 0, .int .i64 0, .int .i64 0, .int .i64 0, .int .i64 0, .int .i64 0] 31)).setRow w2.heap.size (arrv 8 (stlF us)) = W3 at *
  obtain ⟨ib, hib⟩ : ∃ x, w2.heap.size = x := ⟨_, rfl⟩
  rw [hib] at S3 ⊢
  clear hib NB S2
  go_upto_region 9 with (go_at_call 14; (refine (TC.out ⟨bc, 0, none⟩ _ S3.out.fl.cell S3.out.fl.free).mono ?_); rintro e w3 ⟨rfl, hu⟩; have S4 := Lib.hid ((S3.out.upd' hu).congr N0.out.1 N0.out.2); clear hu S3)
  go_wp2_with fail
  go_loopw [11] (fun i wr => ∃ k : Nat, k ≤ 3 ∧ i = .int .i64 k ∧ Hid (BwR bc eb ib X Y (biS (cutK G k) (cutK D k)) (biI (cutK G k) (cutK D k) us) w wr)) (fun i _ => 3 - (intOf i).toNat)
  case atStart => exact ⟨0, by omega, rfl, S4⟩
  case round =>
    obtain ⟨k, hk, rfl, R⟩ := hrel
    clear S4
    by_cases hlt : k < 3
    · obtain rfl | rfl | rfl : k = 0 ∨ k = 1 ∨ k = 2 := by omega
      · have xg := R.out.g.cell (i := 0) (by decide)
        have xd := R.out.a.cell (i := 0) (by decide)
        have tg := tG.out 0
        have td := tD.out 0
        have bg := BG.out 0
        have bd := BD.out 0
        have ns := NS.out 0 (by decide)
        have ni := NI.out 0 (by decide)
        have vi := VI.out 0 (by decide)
        have mg := MG.out 0
        have md := MD.out 0
        obtain ⟨gk, hgk⟩ : ∃ x, G 0 = x := ⟨_, rfl⟩
        obtain ⟨dk, hdk⟩ : ∃ x, D 0 = x := ⟨_, rfl⟩
        obtain ⟨x, hx⟩ : ∃ x, X 0 = x := ⟨_, rfl⟩
        obtain ⟨y, hy⟩ : ∃ x, Y 0 = x := ⟨_, rfl⟩
        rw [hgk] at tg bg ns ni mg
        rw [hdk] at td bd ns ni md
        rw [hx] at xg tg
        rw [hy] at xd td
        rw [(cutK_at D 0).1, ml_zero, Int.add_zero] at vi
        obtain ⟨v5, hv5⟩ : ∃ x, biI (cutK G 0) (cutK D 0) us (5 + 0) = x := ⟨_, rfl⟩
        rw [hv5] at ni vi
        have V5 := Lib.hid hv5
        obtain ⟨mk, hmk⟩ : ∃ x, mulV gk dt 30 = x := ⟨_, rfl⟩
        obtain ⟨nk, hnk⟩ : ∃ x, mulV dk dt 30 = x := ⟨_, rfl⟩
        rw [hmk, hnk] at ni
        rw [hnk] at md
        have v5b : -1052981035 ≤ v5 ∧ v5 ≤ 1 := by have := UG.out; rw [vi]; split <;> omega
        have e1 : IntKind.i64.wrap (x.tmod 134217728) = gk := by rw [tg]; exact IntWalk.i64_in _ (by omega)
        have e2 : IntKind.i64.wrap (y.tmod 1073741824) = dk := by rw [td]; exact IntWalk.i64_in _ (by omega)
        have e3 : IntKind.i64.wrap (v5 + nk) = v5 + nk := IntWalk.i64_in _ (by omega)
        have HYk := Lib.hid hy
        have MM := Lib.hid (And.intro (And.intro hmk hnk) (And.intro mg md.1))
        have NN := Lib.hid (And.intro ns ni)
        have sf := R.out.s.free 10
        have sc := R.out.s.cell (i := 10) (by decide)
        clear hgk hdk hx hy hv5 hmk hnk vi ns ni mg md bg bd v5b
        go_upto_region 13 with fail
        (try simp only [tg])
        have R1 := Lib.hid (R.out.setS 10 gk)
        generalize wr.setCell ⟨eb, 10, none⟩ (.int .i64 gk) = W5 at *
        clear sf sc R xg
        have sf := R1.out.s.free 13
        have sc := R1.out.s.cell (i := 13) (by decide)
        have xd : W5.cell? ⟨w.heap.size + 1, 0, none⟩ = some (.int .i64 y) := by rw [← HYk.out]; exact R1.out.a.cell (by decide)
        go_upto_region 14 with fail
        (try simp only [td])
        have R2 := Lib.hid (R1.out.setS 13 dk)
        generalize W5.setCell ⟨eb, 13, none⟩ (.int .i64 dk) = W6 at *
        clear sf sc R1 xd
        have F2 := Lib.hid (And.intro (show Go.Proofs.Ytnnjcdbliaecgaa.upd (Go.Proofs.Ytnnjcdbliaecgaa.upd (biS (cutK G 0) (cutK D 0)) 10 gk) 13 dk 13 = dk by simp [Go.Proofs.Ytnnjcdbliaecgaa.upd]) (show Go.Proofs.Ytnnjcdbliaecgaa.upd (Go.Proofs.Ytnnjcdbliaecgaa.upd (biS (cutK G 0) (cutK D 0)) 10 gk) 13 dk 10 = gk by simp [Go.Proofs.Ytnnjcdbliaecgaa.upd]))
        have F1 := Lib.hid (show Go.Proofs.Ytnnjcdbliaecgaa.upd (biI (cutK G 0) (cutK D 0) us) 2 mk 5 = v5 by rw [← V5.out]; simp [Go.Proofs.Ytnnjcdbliaecgaa.upd])
        have s10 : W6.cell? ⟨eb, 10, none⟩ = some (.int .i64 gk) := by rw [← F2.out.2]; exact R2.out.s.cell (by decide)
        have MC := fmul_any ⟨bc, 0, none⟩ false gk dt 30 W6 R2.out.fl.cell R2.out.fl.free
        rw [MM.out.1.1, MM.out.2.1, Bool.or_false] at MC
        have MC := Lib.hid MC
        go_upto_region 15 with (go_at_call 13; (refine MC.out.mono ?_); rintro e w7 ⟨rfl, hu⟩; have R3 := Lib.hid (R2.out.upd' hu); have fi := R3.out.i.free 2; have ci := R3.out.i.cell (i := 2) (by decide); clear hu MC R2 s10)
        have HS := Lib.hid ((R3.out.setI 2 mk).down (Below.drew (Below.refl _ _)))
        generalize w7.setCell ⟨ib, 2, none⟩ (.int .i64 mk) = W8 at *
        clear fi ci R3
        refine wp_region_M (fun w' => w'.cell? ⟨ib, 5, none⟩ = some (.int .i64 v5) ∧ w'.cell? ⟨eb, 13, none⟩ = some (.int .i64 dk)) 15 (by kernel_rfl) ?_ (fun hHeld => ?_)
        · exact ⟨by rw [← F1.out]; exact HS.out.i.cell (by decide), by rw [← F2.out.1]; exact HS.out.s.cell (by decide)⟩
        refine wpAnyM_take 0 (v := ?_) rfl (by kernel_rfl) (fun _ _ _ h => h) (Or.inl ⟨by rfl, ?_⟩) (by assumption) ?_
        rotate_left
        · (intro wx hSw; (try dsimp only at hSw); go_simp; (try with_reducible rfl))
        (try simp only [Act.put, nA, nB, nC])
        refine wpAnyM_take 1 (v := ?_) rfl (by kernel_rfl) (fun _ _ _ h => h) (Or.inl ⟨by rfl, ?_⟩) (by assumption) ?_
        rotate_left
        · (intro wx hSw; (try dsimp only at hSw); go_simp; (try with_reducible rfl))
        (try simp only [Act.put, nA, nB, nC])
        refine wpAnyM_take 2 (v := ?_) rfl (by kernel_rfl) (fun _ _ _ h => h) (Or.inl ⟨by rfl, ?_⟩) (by assumption) ?_
        rotate_left
        · (intro wx hSw; (try dsimp only at hSw); go_simp; (try with_reducible rfl))
        (try simp only [Act.put, nA, nB, nC])
        refine wpAnyM_take 3 (v := ?_) rfl (by kernel_rfl) (fun _ _ _ h => h) (Or.inl ⟨by rfl, ?_⟩) (by assumption) ?_
        rotate_left
        · (intro wx hSw; (try dsimp only at hSw); go_simp; (try with_reducible rfl))
        (try simp only [Act.put, nA, nB, nC])
        refine wpAnyM_take 4 (v := ?_) rfl (by kernel_rfl) (fun _ _ _ h => h) (Or.inl ⟨by rfl, ?_⟩) (by assumption) ?_
        rotate_left
        · (intro wx hSw; (try dsimp only at hSw); go_simp; (try with_reducible rfl))
        (try simp only [Act.put, nA, nB, nC])
        refine wpAnyM_take 5 (v := ?_) rfl (by kernel_rfl) (fun _ _ _ h => h) (Or.inl ⟨by rfl, ?_⟩) (by assumption) ?_
        rotate_left
        · (intro wx hSw; (try dsimp only at hSw); go_simp; (try with_reducible rfl))
        (try simp only [Act.put, nA, nB, nC])
        refine wpAnyM_take 6 (v := ?_) rfl (by kernel_rfl) (fun _ _ _ h => h) (Or.inl ⟨by rfl, ?_⟩) (by assumption) ?_
        rotate_left
        · (intro wx hSw; (try dsimp only at hSw); go_simp; (try with_reducible rfl))
        (try simp only [Act.put, nA, nB, nC])
        refine wpAnyM_take 7 (v := ?_) rfl (by kernel_rfl) (fun _ _ _ h => h) (Or.inl ⟨by rfl, ?_⟩) (by assumption) ?_
        rotate_left
        · (intro wx hSw; (try dsimp only at hSw); go_simp; (try with_reducible rfl))
        (try simp only [Act.put, nA, nB, nC])
        refine wpAnyM_take 8 (v := ?_) rfl (by kernel_rfl) (fun _ _ _ h => h) (Or.inl ⟨by rfl, ?_⟩) (by assumption) ?_
        rotate_left
        · (intro wx hSw; (try dsimp only at hSw); go_simp; rw [show IntKind.i64.wrap 13 = 13 from IntWalk.i64_in _ (by omega)]; go_simp; (try with_reducible rfl))
        (try simp only [Act.put, nA, nB, nC])
        refine wpAnyM_take 9 (v := ?_) rfl (by kernel_rfl) (fun _ _ _ h => h) (Or.inl ⟨by rfl, ?_⟩) (by assumption) ?_
        rotate_left
        · (intro wx hSw; (try dsimp only at hSw); go_simp; (try with_reducible rfl))
        (try simp only [Act.put, nA, nB, nC])
        refine wpAnyM_take 10 (v := ?_) rfl (by kernel_rfl) (fun _ _ _ h => h) (Or.inl ⟨by rfl, ?_⟩) (by assumption) ?_
        rotate_left
        · (intro wx hSw; (try dsimp only at hSw); go_simp; (try with_reducible rfl))
        (try simp only [Act.put, nA, nB, nC])
        refine wpAnyM_takeW 13 (v := ?_) rfl (by kernel_rfl) (fun _ _ _ h => h) (Or.inl ⟨by rfl, ?_⟩) (.inr (by assumption)) ?_
        rotate_left
        · (intro wx hSw; (try dsimp only at hSw); go_simp; (try with_reducible rfl))
        (try simp only [Act.put, nA, nB, nC])
        refine wpAnyM_oneS 11 rfl (by kernel_rfl) (fun K hK => ?_)
        go_simp
        have MC := fmul_any ⟨bc, 0, none⟩ false dk dt 30 W8.drew HS.out.fl.cell HS.out.fl.free; (rw [MM.out.1.2, MM.out.2.2, Bool.or_false] at MC); (refine MC.mono ?_); rintro e w9 ⟨rfl, hu⟩; clear MC; have HS2 := Lib.hid (HS.out.upd' hu); clear HS hu; have HS := HS2; clear HS2; have fi := HS.out.i.free 5; have ci := HS.out.i.cell (i := 5) (by decide)
        (try dsimp only)
        (try simp only [Act.put, nA, nB, nC])
        clear hHeld
        refine hK.out _ _ ?_ (fun hHeld => ?_)
        · exact ⟨by rw [← F1.out]; exact HS.out.i.cell (by decide), by rw [← F2.out.1]; exact HS.out.s.cell (by decide)⟩
        clear hK K
        (try simp only [Act.put, nA, nB, nC])
        refine wpAnyM_take 12 (v := ?_) rfl (by kernel_rfl) (fun _ _ _ h => h) (Or.inl ⟨by rfl, ?_⟩) (by assumption) ?_
        rotate_left
        · (intro wx hSw; (try dsimp only at hSw); go_simp; (try with_reducible rfl))
        (try simp only [Act.put, nA, nB, nC])
        refine wpAnyM_take 14 (v := ?_) rfl (by kernel_rfl) (fun _ _ _ h => h) (Or.inl ⟨by rfl, ?_⟩) (by assumption) ?_
        rotate_left
        · (intro wx hSw; (try dsimp only at hSw); go_simp; (try with_reducible rfl))
        (try simp only [Act.put, nA, nB, nC])
        refine wpAnyM_one 15 rfl (by kernel_rfl) (fun K hK => ?_)
        go_simp
        refine hK.out _ _ (.inl (by kernel_rfl)) (fun _ => ?_)
        clear hK K
        (try simp only [Act.put, nA, nB, nC])
        refine wpAnyM_done (by kernel_rfl) ?_ _
        clear fi ci
        go_wp2_with fail
        go_roundw
        case rel => exact ⟨1, by omega, by go_num, Lib.hid ((HS.out.setI 5 (v5 + nk)).congr NN.out.1 NN.out.2)⟩
        case measure => simp [intOf]
      · have xg := R.out.g.cell (i := 1) (by decide)
        have xd := R.out.a.cell (i := 1) (by decide)
        have tg := tG.out 1
        have td := tD.out 1
        have bg := BG.out 1
        have bd := BD.out 1
        have ns := NS.out 1 (by decide)
        have ni := NI.out 1 (by decide)
        have vi := VI.out 1 (by decide)
        have mg := MG.out 1
        have md := MD.out 1
        obtain ⟨gk, hgk⟩ : ∃ x, G 1 = x := ⟨_, rfl⟩
        obtain ⟨dk, hdk⟩ : ∃ x, D 1 = x := ⟨_, rfl⟩
        obtain ⟨x, hx⟩ : ∃ x, X 1 = x := ⟨_, rfl⟩
        obtain ⟨y, hy⟩ : ∃ x, Y 1 = x := ⟨_, rfl⟩
        rw [hgk] at tg bg ns ni mg
        rw [hdk] at td bd ns ni md
        rw [hx] at xg tg
        rw [hy] at xd td
        rw [(cutK_at D 1).1, ml_zero, Int.add_zero] at vi
        obtain ⟨v5, hv5⟩ : ∃ x, biI (cutK G 1) (cutK D 1) us (5 + 1) = x := ⟨_, rfl⟩
        rw [hv5] at ni vi
        have V5 := Lib.hid hv5
        obtain ⟨mk, hmk⟩ : ∃ x, mulV gk dt 30 = x := ⟨_, rfl⟩
        obtain ⟨nk, hnk⟩ : ∃ x, mulV dk dt 30 = x := ⟨_, rfl⟩
        rw [hmk, hnk] at ni
        rw [hnk] at md
        have v5b : -1052981035 ≤ v5 ∧ v5 ≤ 1 := by have := UG.out; rw [vi]; split <;> omega
        have e1 : IntKind.i64.wrap (x.tmod 134217728) = gk := by rw [tg]; exact IntWalk.i64_in _ (by omega)
        have e2 : IntKind.i64.wrap (y.tmod 1073741824) = dk := by rw [td]; exact IntWalk.i64_in _ (by omega)
        have e3 : IntKind.i64.wrap (v5 + nk) = v5 + nk := IntWalk.i64_in _ (by omega)
        have HYk := Lib.hid hy
        have MM := Lib.hid (And.intro (And.intro hmk hnk) (And.intro mg md.1))
        have NN := Lib.hid (And.intro ns ni)
        have sf := R.out.s.free 11
        have sc := R.out.s.cell (i := 11) (by decide)
        clear hgk hdk hx hy hv5 hmk hnk vi ns ni mg md bg bd v5b
        go_upto_region 13 with fail
        (try simp only [tg])
        have R1 := Lib.hid (R.out.setS 11 gk)
        generalize wr.setCell ⟨eb, 11, none⟩ (.int .i64 gk) = W5 at *
        clear sf sc R xg
        have sf := R1.out.s.free 14
        have sc := R1.out.s.cell (i := 14) (by decide)
        have xd : W5.cell? ⟨w.heap.size + 1, 1, none⟩ = some (.int .i64 y) := by rw [← HYk.out]; exact R1.out.a.cell (by decide)
        go_upto_region 14 with fail
        (try simp only [td])
        have R2 := Lib.hid (R1.out.setS 14 dk)
        generalize W5.setCell ⟨eb, 14, none⟩ (.int .i64 dk) = W6 at *
        clear sf sc R1 xd
        have F2 := Lib.hid (And.intro (show Go.Proofs.Ytnnjcdbliaecgaa.upd (Go.Proofs.Ytnnjcdbliaecgaa.upd (biS (cutK G 1) (cutK D 1)) 11 gk) 14 dk 14 = dk by simp [Go.Proofs.Ytnnjcdbliaecgaa.upd]) (show Go.Proofs.Ytnnjcdbliaecgaa.upd (Go.Proofs.Ytnnjcdbliaecgaa.upd (biS (cutK G 1) (cutK D 1)) 11 gk) 14 dk 11 = gk by simp [Go.Proofs.Ytnnjcdbliaecgaa.upd]))
        have F1 := Lib.hid (show Go.Proofs.Ytnnjcdbliaecgaa.upd (biI (cutK G 1) (cutK D 1) us) 3 mk 6 = v5 by rw [← V5.out]; simp [Go.Proofs.Ytnnjcdbliaecgaa.upd])
        have s10 : W6.cell? ⟨eb, 11, none⟩ = some (.int .i64 gk) := by rw [← F2.out.2]; exact R2.out.s.cell (by decide)
        have MC := fmul_any ⟨bc, 0, none⟩ false gk dt 30 W6 R2.out.fl.cell R2.out.fl.free
        rw [MM.out.1.1, MM.out.2.1, Bool.or_false] at MC
        have MC := Lib.hid MC
        go_upto_region 15 with (go_at_call 13; (refine MC.out.mono ?_); rintro e w7 ⟨rfl, hu⟩; have R3 := Lib.hid (R2.out.upd' hu); have fi := R3.out.i.free 3; have ci := R3.out.i.cell (i := 3) (by decide); clear hu MC R2 s10)
        have HS := Lib.hid ((R3.out.setI 3 mk).down (Below.drew (Below.refl _ _)))
        generalize w7.setCell ⟨ib, 3, none⟩ (.int .i64 mk) = W8 at *
        clear fi ci R3
        refine wp_region_M (fun w' => w'.cell? ⟨ib, 6, none⟩ = some (.int .i64 v5) ∧ w'.cell? ⟨eb, 14, none⟩ = some (.int .i64 dk)) 15 (by kernel_rfl) ?_ (fun hHeld => ?_)
        · exact ⟨by rw [← F1.out]; exact HS.out.i.cell (by decide), by rw [← F2.out.1]; exact HS.out.s.cell (by decide)⟩
        refine wpAnyM_take 0 (v := ?_) rfl (by kernel_rfl) (fun _ _ _ h => h) (Or.inl ⟨by rfl, ?_⟩) (by assumption) ?_
        rotate_left
        · (intro wx hSw; (try dsimp only at hSw); go_simp; (try with_reducible rfl))
        (try simp only [Act.put, nA, nB, nC])
        refine wpAnyM_take 1 (v := ?_) rfl (by kernel_rfl) (fun _ _ _ h => h) (Or.inl ⟨by rfl, ?_⟩) (by assumption) ?_
        rotate_left
        · (intro wx hSw; (try dsimp only at hSw); go_simp; (try with_reducible rfl))
        (try simp only [Act.put, nA, nB, nC])
        refine wpAnyM_take 2 (v := ?_) rfl (by kernel_rfl) (fun _ _ _ h => h) (Or.inl ⟨by rfl, ?_⟩) (by assumption) ?_
        rotate_left
        · (intro wx hSw; (try dsimp only at hSw); go_simp; (try with_reducible rfl))
        (try simp only [Act.put, nA, nB, nC])
        refine wpAnyM_take 3 (v := ?_) rfl (by kernel_rfl) (fun _ _ _ h => h) (Or.inl ⟨by rfl, ?_⟩) (by assumption) ?_
        rotate_left
        · (intro wx hSw; (try dsimp only at hSw); go_simp; (try with_reducible rfl))
        (try simp only [Act.put, nA, nB, nC])
        refine wpAnyM_take 4 (v := ?_) rfl (by kernel_rfl) (fun _ _ _ h => h) (Or.inl ⟨by rfl, ?_⟩) (by assumption) ?_
        rotate_left
        · (intro wx hSw; (try dsimp only at hSw); go_simp; (try with_reducible rfl))
        (try simp only [Act.put, nA, nB, nC])
        refine wpAnyM_take 5 (v := ?_) rfl (by kernel_rfl) (fun _ _ _ h => h) (Or.inl ⟨by rfl, ?_⟩) (by assumption) ?_
        rotate_left
        · (intro wx hSw; (try dsimp only at hSw); go_simp; (try with_reducible rfl))
        (try simp only [Act.put, nA, nB, nC])
        refine wpAnyM_take 6 (v := ?_) rfl (by kernel_rfl) (fun _ _ _ h => h) (Or.inl ⟨by rfl, ?_⟩) (by assumption) ?_
        rotate_left
        · (intro wx hSw; (try dsimp only at hSw); go_simp; (try with_reducible rfl))
        (try simp only [Act.put, nA, nB, nC])
        refine wpAnyM_take 7 (v := ?_) rfl (by kernel_rfl) (fun _ _ _ h => h) (Or.inl ⟨by rfl, ?_⟩) (by assumption) ?_
        rotate_left
        · (intro wx hSw; (try dsimp only at hSw); go_simp; (try with_reducible rfl))
        (try simp only [Act.put, nA, nB, nC])
        refine wpAnyM_take 8 (v := ?_) rfl (by kernel_rfl) (fun _ _ _ h => h) (Or.inl ⟨by rfl, ?_⟩) (by assumption) ?_
        rotate_left
        · (intro wx hSw; (try dsimp only at hSw); go_simp; rw [show IntKind.i64.wrap 14 = 14 from IntWalk.i64_in _ (by omega)]; go_simp; (try with_reducible rfl))
        (try simp only [Act.put, nA, nB, nC])
        refine wpAnyM_take 9 (v := ?_) rfl (by kernel_rfl) (fun _ _ _ h => h) (Or.inl ⟨by rfl, ?_⟩) (by assumption) ?_
        rotate_left
        · (intro wx hSw; (try dsimp only at hSw); go_simp; (try with_reducible rfl))
        (try simp only [Act.put, nA, nB, nC])
        refine wpAnyM_take 10 (v := ?_) rfl (by kernel_rfl) (fun _ _ _ h => h) (Or.inl ⟨by rfl, ?_⟩) (by assumption) ?_
        rotate_left
        · (intro wx hSw; (try dsimp only at hSw); go_simp; (try with_reducible rfl))
        (try simp only [Act.put, nA, nB, nC])
        refine wpAnyM_takeW 13 (v := ?_) rfl (by kernel_rfl) (fun _ _ _ h => h) (Or.inl ⟨by rfl, ?_⟩) (.inr (by assumption)) ?_
        rotate_left
        · (intro wx hSw; (try dsimp only at hSw); go_simp; (try with_reducible rfl))
        (try simp only [Act.put, nA, nB, nC])
        refine wpAnyM_oneS 11 rfl (by kernel_rfl) (fun K hK => ?_)
        go_simp
        have MC := fmul_any ⟨bc, 0, none⟩ false dk dt 30 W8.drew HS.out.fl.cell HS.out.fl.free; (rw [MM.out.1.2, MM.out.2.2, Bool.or_false] at MC); (refine MC.mono ?_); rintro e w9 ⟨rfl, hu⟩; clear MC; have HS2 := Lib.hid (HS.out.upd' hu); clear HS hu; have HS := HS2; clear HS2; have fi := HS.out.i.free 6; have ci := HS.out.i.cell (i := 6) (by decide)
        (try dsimp only)
        (try simp only [Act.put, nA, nB, nC])
        clear hHeld
        refine hK.out _ _ ?_ (fun hHeld => ?_)
        · exact ⟨by rw [← F1.out]; exact HS.out.i.cell (by decide), by rw [← F2.out.1]; exact HS.out.s.cell (by decide)⟩
        clear hK K
        (try simp only [Act.put, nA, nB, nC])
        refine wpAnyM_take 12 (v := ?_) rfl (by kernel_rfl) (fun _ _ _ h => h) (Or.inl ⟨by rfl, ?_⟩) (by assumption) ?_
        rotate_left
        · (intro wx hSw; (try dsimp only at hSw); go_simp; (try with_reducible rfl))
        (try simp only [Act.put, nA, nB, nC])
        refine wpAnyM_take 14 (v := ?_) rfl (by kernel_rfl) (fun _ _ _ h => h) (Or.inl ⟨by rfl, ?_⟩) (by assumption) ?_
        rotate_left
        · (intro wx hSw; (try dsimp only at hSw); go_simp; (try with_reducible rfl))
        (try simp only [Act.put, nA, nB, nC])
        refine wpAnyM_one 15 rfl (by kernel_rfl) (fun K hK => ?_)
        go_simp
        refine hK.out _ _ (.inl (by kernel_rfl)) (fun _ => ?_)
        clear hK K
        (try simp only [Act.put, nA, nB, nC])
        refine wpAnyM_done (by kernel_rfl) ?_ _
        clear fi ci
        go_wp2_with fail
        go_roundw
        case rel => exact ⟨2, by omega, by go_num, Lib.hid ((HS.out.setI 6 (v5 + nk)).congr NN.out.1 NN.out.2)⟩
        case measure => simp [intOf]
      · have xg := R.out.g.cell (i := 2) (by decide)
        have xd := R.out.a.cell (i := 2) (by decide)
        have tg := tG.out 2
        have td := tD.out 2
        have bg := BG.out 2
        have bd := BD.out 2
        have ns := NS.out 2 (by decide)
        have ni := NI.out 2 (by decide)
        have vi := VI.out 2 (by decide)
        have mg := MG.out 2
        have md := MD.out 2
        obtain ⟨gk, hgk⟩ : ∃ x, G 2 = x := ⟨_, rfl⟩
        obtain ⟨dk, hdk⟩ : ∃ x, D 2 = x := ⟨_, rfl⟩
        obtain ⟨x, hx⟩ : ∃ x, X 2 = x := ⟨_, rfl⟩
        obtain ⟨y, hy⟩ : ∃ x, Y 2 = x := ⟨_, rfl⟩
        rw [hgk] at tg bg ns ni mg
        rw [hdk] at td bd ns ni md
        rw [hx] at xg tg
        rw [hy] at xd td
        rw [(cutK_at D 2).1, ml_zero, Int.add_zero] at vi
        obtain ⟨v5, hv5⟩ : ∃ x, biI (cutK G 2) (cutK D 2) us (5 + 2) = x := ⟨_, rfl⟩
        rw [hv5] at ni vi
        have V5 := Lib.hid hv5
        obtain ⟨mk, hmk⟩ : ∃ x, mulV gk dt 30 = x := ⟨_, rfl⟩
        obtain ⟨nk, hnk⟩ : ∃ x, mulV dk dt 30 = x := ⟨_, rfl⟩
        rw [hmk, hnk] at ni
        rw [hnk] at md
        have v5b : -1052981035 ≤ v5 ∧ v5 ≤ 1 := by have := UG.out; rw [vi]; split <;> omega
        have e1 : IntKind.i64.wrap (x.tmod 134217728) = gk := by rw [tg]; exact IntWalk.i64_in _ (by omega)
        have e2 : IntKind.i64.wrap (y.tmod 1073741824) = dk := by rw [td]; exact IntWalk.i64_in _ (by omega)
        have e3 : IntKind.i64.wrap (v5 + nk) = v5 + nk := IntWalk.i64_in _ (by omega)
        have HYk := Lib.hid hy
        have MM := Lib.hid (And.intro (And.intro hmk hnk) (And.intro mg md.1))
        have NN := Lib.hid (And.intro ns ni)
        have sf := R.out.s.free 12
        have sc := R.out.s.cell (i := 12) (by decide)
        clear hgk hdk hx hy hv5 hmk hnk vi ns ni mg md bg bd v5b
        go_upto_region 13 with fail
        (try simp only [tg])
        have R1 := Lib.hid (R.out.setS 12 gk)
        generalize wr.setCell ⟨eb, 12, none⟩ (.int .i64 gk) = W5 at *
        clear sf sc R xg
        have sf := R1.out.s.free 15
        have sc := R1.out.s.cell (i := 15) (by decide)
        have xd : W5.cell? ⟨w.heap.size + 1, 2, none⟩ = some (.int .i64 y) := by rw [← HYk.out]; exact R1.out.a.cell (by decide)
        go_upto_region 14 with fail
        (try simp only [td])
        have R2 := Lib.hid (R1.out.setS 15 dk)
        generalize W5.setCell ⟨eb, 15, none⟩ (.int .i64 dk) = W6 at *
        clear sf sc R1 xd
        have F2 := Lib.hid (And.intro (show Go.Proofs.Ytnnjcdbliaecgaa.upd (Go.Proofs.Ytnnjcdbliaecgaa.upd (biS (cutK G 2) (cutK D 2)) 12 gk) 15 dk 15 = dk by simp [Go.Proofs.Ytnnjcdbliaecgaa.upd]) (show Go.Proofs.Ytnnjcdbliaecgaa.upd (Go.Proofs.Ytnnjcdbliaecgaa.upd (biS (cutK G 2) (cutK D 2)) 12 gk) 15 dk 12 = gk by simp [Go.Proofs.Ytnnjcdbliaecgaa.upd]))
        have F1 := Lib.hid (show Go.Proofs.Ytnnjcdbliaecgaa.upd (biI (cutK G 2) (cutK D 2) us) 4 mk 7 = v5 by rw [← V5.out]; simp [Go.Proofs.Ytnnjcdbliaecgaa.upd])
        have s10 : W6.cell? ⟨eb, 12, none⟩ = some (.int .i64 gk) := by rw [← F2.out.2]; exact R2.out.s.cell (by decide)
        have MC := fmul_any ⟨bc, 0, none⟩ false gk dt 30 W6 R2.out.fl.cell R2.out.fl.free
        rw [MM.out.1.1, MM.out.2.1, Bool.or_false] at MC
        have MC := Lib.hid MC
        go_upto_region 15 with (go_at_call 13; (refine MC.out.mono ?_); rintro e w7 ⟨rfl, hu⟩; have R3 := Lib.hid (R2.out.upd' hu); have fi := R3.out.i.free 4; have ci := R3.out.i.cell (i := 4) (by decide); clear hu MC R2 s10)
        have HS := Lib.hid ((R3.out.setI 4 mk).down (Below.drew (Below.refl _ _)))
        generalize w7.setCell ⟨ib, 4, none⟩ (.int .i64 mk) = W8 at *
        clear fi ci R3
        refine wp_region_M (fun w' => w'.cell? ⟨ib, 7, none⟩ = some (.int .i64 v5) ∧ w'.cell? ⟨eb, 15, none⟩ = some (.int .i64 dk)) 15 (by kernel_rfl) ?_ (fun hHeld => ?_)
        · exact ⟨by rw [← F1.out]; exact HS.out.i.cell (by decide), by rw [← F2.out.1]; exact HS.out.s.cell (by decide)⟩
        refine wpAnyM_take 0 (v := ?_) rfl (by kernel_rfl) (fun _ _ _ h => h) (Or.inl ⟨by rfl, ?_⟩) (by assumption) ?_
        rotate_left
        · (intro wx hSw; (try dsimp only at hSw); go_simp; (try with_reducible rfl))
        (try simp only [Act.put, nA, nB, nC])
        refine wpAnyM_take 1 (v := ?_) rfl (by kernel_rfl) (fun _ _ _ h => h) (Or.inl ⟨by rfl, ?_⟩) (by assumption) ?_
        rotate_left
        · (intro wx hSw; (try dsimp only at hSw); go_simp; (try with_reducible rfl))
        (try simp only [Act.put, nA, nB, nC])
        refine wpAnyM_take 2 (v := ?_) rfl (by kernel_rfl) (fun _ _ _ h => h) (Or.inl ⟨by rfl, ?_⟩) (by assumption) ?_
        rotate_left
        · (intro wx hSw; (try dsimp only at hSw); go_simp; (try with_reducible rfl))
        (try simp only [Act.put, nA, nB, nC])
        refine wpAnyM_take 3 (v := ?_) rfl (by kernel_rfl) (fun _ _ _ h => h) (Or.inl ⟨by rfl, ?_⟩) (by assumption) ?_
        rotate_left
        · (intro wx hSw; (try dsimp only at hSw); go_simp; (try with_reducible rfl))
        (try simp only [Act.put, nA, nB, nC])
        refine wpAnyM_take 4 (v := ?_) rfl (by kernel_rfl) (fun _ _ _ h => h) (Or.inl ⟨by rfl, ?_⟩) (by assumption) ?_
        rotate_left
        · (intro wx hSw; (try dsimp only at hSw); go_simp; (try with_reducible rfl))
        (try simp only [Act.put, nA, nB, nC])
        refine wpAnyM_take 5 (v := ?_) rfl (by kernel_rfl) (fun _ _ _ h => h) (Or.inl ⟨by rfl, ?_⟩) (by assumption) ?_
        rotate_left
        · (intro wx hSw; (try dsimp only at hSw); go_simp; (try with_reducible rfl))
        (try simp only [Act.put, nA, nB, nC])
        refine wpAnyM_take 6 (v := ?_) rfl (by kernel_rfl) (fun _ _ _ h => h) (Or.inl ⟨by rfl, ?_⟩) (by assumption) ?_
        rotate_left
        · (intro wx hSw; (try dsimp only at hSw); go_simp; (try with_reducible rfl))
        (try simp only [Act.put, nA, nB, nC])
        refine wpAnyM_take 7 (v := ?_) rfl (by kernel_rfl) (fun _ _ _ h => h) (Or.inl ⟨by rfl, ?_⟩) (by assumption) ?_
        rotate_left
        · (intro wx hSw; (try dsimp only at hSw); go_simp; (try with_reducible rfl))
        (try simp only [Act.put, nA, nB, nC])
        refine wpAnyM_take 8 (v := ?_) rfl (by kernel_rfl) (fun _ _ _ h => h) (Or.inl ⟨by rfl, ?_⟩) (by assumption) ?_
        rotate_left
        · (intro wx hSw; (try dsimp only at hSw); go_simp; rw [show IntKind.i64.wrap 15 = 15 from IntWalk.i64_in _ (by omega)]; go_simp; (try with_reducible rfl))
        (try simp only [Act.put, nA, nB, nC])
        refine wpAnyM_take 9 (v := ?_) rfl (by kernel_rfl) (fun _ _ _ h => h) (Or.inl ⟨by rfl, ?_⟩) (by assumption) ?_
        rotate_left
        · (intro wx hSw; (try dsimp only at hSw); go_simp; (try with_reducible rfl))
        (try simp only [Act.put, nA, nB, nC])
        refine wpAnyM_take 10 (v := ?_) rfl (by kernel_rfl) (fun _ _ _ h => h) (Or.inl ⟨by rfl, ?_⟩) (by assumption) ?_
        rotate_left
        · (intro wx hSw; (try dsimp only at hSw); go_simp; (try with_reducible rfl))
        (try simp only [Act.put, nA, nB, nC])
        refine wpAnyM_takeW 13 (v := ?_) rfl (by kernel_rfl) (fun _ _ _ h => h) (Or.inl ⟨by rfl, ?_⟩) (.inr (by assumption)) ?_
        rotate_left
        · (intro wx hSw; (try dsimp only at hSw); go_simp; (try with_reducible rfl))
        (try simp only [Act.put, nA, nB, nC])
        refine wpAnyM_oneS 11 rfl (by kernel_rfl) (fun K hK => ?_)
        go_simp
        have MC := fmul_any ⟨bc, 0, none⟩ false dk dt 30 W8.drew HS.out.fl.cell HS.out.fl.free; (rw [MM.out.1.2, MM.out.2.2, Bool.or_false] at MC); (refine MC.mono ?_); rintro e w9 ⟨rfl, hu⟩; clear MC; have HS2 := Lib.hid (HS.out.upd' hu); clear HS hu; have HS := HS2; clear HS2; have fi := HS.out.i.free 7; have ci := HS.out.i.cell (i := 7) (by decide)
        (try dsimp only)
        (try simp only [Act.put, nA, nB, nC])
        clear hHeld
        refine hK.out _ _ ?_ (fun hHeld => ?_)
        · exact ⟨by rw [← F1.out]; exact HS.out.i.cell (by decide), by rw [← F2.out.1]; exact HS.out.s.cell (by decide)⟩
        clear hK K
        (try simp only [Act.put, nA, nB, nC])
        refine wpAnyM_take 12 (v := ?_) rfl (by kernel_rfl) (fun _ _ _ h => h) (Or.inl ⟨by rfl, ?_⟩) (by assumption) ?_
        rotate_left
        · (intro wx hSw; (try dsimp only at hSw); go_simp; (try with_reducible rfl))
        (try simp only [Act.put, nA, nB, nC])
        refine wpAnyM_take 14 (v := ?_) rfl (by kernel_rfl) (fun _ _ _ h => h) (Or.inl ⟨by rfl, ?_⟩) (by assumption) ?_
        rotate_left
        · (intro wx hSw; (try dsimp only at hSw); go_simp; (try with_reducible rfl))
        (try simp only [Act.put, nA, nB, nC])
        refine wpAnyM_one 15 rfl (by kernel_rfl) (fun K hK => ?_)
        go_simp
        refine hK.out _ _ (.inl (by kernel_rfl)) (fun _ => ?_)
        clear hK K
        (try simp only [Act.put, nA, nB, nC])
        refine wpAnyM_done (by kernel_rfl) ?_ _
        clear fi ci
        go_wp2_with fail
        go_roundw
        case rel => exact ⟨3, by omega, by go_num, Lib.hid ((HS.out.setI 7 (v5 + nk)).congr NN.out.1 NN.out.2)⟩
        case measure => simp [intOf]
    · have hk3 : k = 3 := by omega
      subst hk3
      have SC := fun (x : World) (k : x.cell? ⟨bc, 0, none⟩ = some (.bool false)) (f : x.frozen? ⟨bc, 0, none⟩ = false) => step_any2 ⟨bc, 0, none⟩ false (biS (cutK G 3) (cutK D 3)) (biI (cutK G 3) (cutK D 3) us) x k f
      rw [ST.out.1, ST.out.2, Bool.or_false] at SC
      obtain ⟨SS, hSS⟩ : ∃ x, biS (cutK G 3) (cutK D 3) = x := ⟨_, rfl⟩
      obtain ⟨II, hII⟩ : ∃ x, biI (cutK G 3) (cutK D 3) us = x := ⟨_, rfl⟩
      rw [hSS, hII] at SC R
      have SC := Lib.hid SC
      clear hSS hII
      have P0 := R.out.s
      have I0 := R.out.i
      have g1 : decide (((3 : Nat) : Int) < 3) = false := by simp
      go_upto_region 16 with fail
      refine wp_region_lit ?_
      refine wpList_val (v := ?_) rfl ?_ ?_
      rotate_left
      · (go_simp; (try (first | with_reducible rfl | (constructor <;> with_reducible rfl))))
      (try simp only [Act.put, nA, nB, nC])
      refine wpList_val (v := ?_) rfl ?_ ?_
      rotate_left
      · refine Eq.trans (run_load_row 27 (.tmp 8) (by rfl) (eb) (by rfl) _ _ _ _ (P0) Try.underlying27 rfl (ist.trans (by rw [arrv_size]))) ?_; with_reducible rfl
      (try simp only [Act.put, nA, nB, nC])
      refine wpList_val (v := ?_) rfl ?_ ?_
      rotate_left
      · (refine Eq.trans (run_load_row 31 (.tmp 9) (by rfl) (ib) (by rfl) _ _ _ _ I0 Try.underlying31 rfl (iimu.trans (by rw [arrv_size]))) ?_; with_reducible rfl)
      (try simp only [Act.put, nA, nB, nC])
      refine wpList_step (fun K hK => ?_)
      go_simp
      (refine (SC.out _ R.out.fl.cell R.out.fl.free).mono ?_); rintro e w4 ⟨rfl, hu⟩; have R1 := Lib.hid (R.out.upd' hu); clear hu R P0 I0 SC
      (try dsimp only)
      (try simp only [Act.put, nA, nB, nC])
      refine hK _ _ ?_
      clear hK K
      refine wpList_act (v := ?_) (w' := ?_) rfl ?_ ?_
      rotate_left 2
      · (go_simp; (try (first | with_reducible rfl | (constructor <;> with_reducible rfl))))
      (try simp only [Act.put, nA, nB, nC])
      refine wpList_done (w' := ?_) rfl ?_ ?_
      rotate_left
      · (refine Eq.trans (run_store_row 27 (.tmp 12) (.tmp 75) (by rfl) (w4.heap.size) (by rfl) (by rfl) (show Blk (w4.alloc (.cells #[.int .i64 0, .int .i64 0, .int .i64 0, .int .i64 0, .int .i64 0, .int .i64 0, .int .i64 0, .int .i64 0, .int .i64 0, .int .i64 0, .int .i64 0, .int .i64 0, .int .i64 0, .int .i64 0, .int .i64 0, .int .i64 0, .int .i64 0, .int .i64 0, .int .i64 0, .int .i64 0, .int .i64 0, .int .i64 0, .int .i64 0, .int .i64 0] 27)) w4.heap.size 27 24 (fun _ => 0) by rw [zvec24]; exact Blk.new _ _ _ _) (ist.trans rfl)) ?_; with_reducible rfl)
      (try simp only [Act.put, nA, nB, nC])
      refine wpList_nil ?_
      have P4 : Blk ((w4.alloc (.cells #[.int .i64 0, .int .i64 0, .int .i64 0, .int .i64 0, .int .i64 0, .int .i64 0, .int .i64 0, .int .i64 0, .int .i64 0, .int .i64 0, .int .i64 0, .int .i64 0, .int .i64 0, .int .i64 0, .int .i64 0, .int .i64 0, .int .i64 0, .int .i64 0, .int .i64 0, .int .i64 0, .int .i64 0, .int .i64 0, .int .i64 0, .int .i64 0] 27)).setRow w4.heap.size (arrv 24 SS)) w4.heap.size 27 24 SS := by rw [zvec24]; exact (Blk.new _ _ _ _).setRow SS
      have Q4 : Blk ((w4.alloc (.cells #[.int .i64 0, .int .i64 0, .int .i64 0, .int .i64 0, .int .i64 0, .int .i64 0, .int .i64 0, .int .i64 0, .int .i64 0, .int .i64 0, .int .i64 0, .int .i64 0, .int .i64 0, .int .i64 0, .int .i64 0, .int .i64 0, .int .i64 0, .int .i64 0, .int .i64 0, .int .i64 0, .int .i64 0, .int .i64 0, .int .i64 0, .int .i64 0] 27)).setRow w4.heap.size (arrv 24 SS)) eb 27 24 SS := (R1.out.s.alloc _).setRow_other _ (by have := R1.out.s.lt; omega)
      have F4 : Flg ((w4.alloc (.cells #[.int .i64 0, .int .i64 0, .int .i64 0, .int .i64 0, .int .i64 0, .int .i64 0, .int .i64 0, .int .i64 0, .int .i64 0, .int .i64 0, .int .i64 0, .int .i64 0, .int .i64 0, .int .i64 0, .int .i64 0, .int .i64 0, .int .i64 0, .int .i64 0, .int .i64 0, .int .i64 0, .int .i64 0, .int .i64 0, .int .i64 0, .int .i64 0] 27)).setRow w4.heap.size (arrv 24 SS)) bc false := (R1.out.fl.alloc _).row _ (by have := R1.out.fl.lt; omega)
      have B4 := Lib.hid (show Below w.heap.size w ((w4.alloc (.cells #[.int .i64 0, .int .i64 0, .int .i64 0, .int .i64 0, .int .i64 0, .int .i64 0, .int .i64 0, .int .i64 0, .int .i64 0, .int .i64 0, .int .i64 0, .int .i64 0, .int .i64 0, .int .i64 0, .int .i64 0, .int .i64 0, .int .i64 0, .int .i64 0, .int .i64 0, .int .i64 0, .int .i64 0, .int .i64 0, .int .i64 0, .int .i64 0] 27)).setRow w4.heap.size (arrv 24 SS)) from below_row (R1.out.below.alloc R1.out.below.size _) R1.out.below.size _)
      generalize (w4.alloc (.cells #[.int .i64 0, .int .i64 0, .int .i64 0, .int .i64 0, .int .i64 0, .int .i64 0, .int .i64 0, .int .i64 0, .int .i64 0, .int .i64 0, .int .i64 0, .int .i64 0, .int .i64 0, .int .i64 0, .int .i64 0, .int .i64 0, .int .i64 0, .int .i64 0, .int .i64 0, .int .i64 0, .int .i64 0, .int .i64 0, .int .i64 0, .int .i64 0] 27)).setRow w4.heap.size (arrv 24 SS) = W4 at *
      obtain ⟨xb, hxb⟩ : ∃ x, w4.heap.size = x := ⟨_, rfl⟩
      rw [hxb] at P4 ⊢
      have fc := F4.cell
      have EQ := Lib.hid (eqB_self 24 SS)
      clear R1 hxb
      go_upto_region 17 with fail
      refine wp_region_lit ?_
      refine wpList_val (v := ?_) rfl ?_ ?_
      rotate_left
      · refine Eq.trans (run_load_row 27 (.tmp 12) (by rfl) (xb) (by rfl) _ _ _ _ (P4) Try.underlying27 rfl (ist.trans (by rw [arrv_size]))) ?_; with_reducible rfl
      (try simp only [Act.put, nA, nB, nC])
      refine wpList_val (v := ?_) rfl ?_ ?_
      rotate_left
      · refine Eq.trans (run_load_row 27 (.tmp 8) (by rfl) (eb) (by rfl) _ _ _ _ (Q4) Try.underlying27 rfl (ist.trans (by rw [arrv_size]))) ?_; with_reducible rfl
      (try simp only [Act.put, nA, nB, nC])
      refine wpList_val (v := ?_) rfl ?_ ?_
      rotate_left
      · (refine Eq.trans (run_op_eqlVec Try.underlying27 (by kernel_rfl) (.tmp 76) (.tmp 77) (by rfl) (by rfl) (by rfl) EQ.out) ?_; with_reducible rfl)
      (try simp only [Act.put, nA, nB, nC])
      refine wpList_val (v := ?_) rfl ?_ ?_
      rotate_left
      · (go_simp; (try (first | with_reducible rfl | (constructor <;> with_reducible rfl))))
      (try simp only [Act.put, nA, nB, nC])
      first | (refine wpList_val (v := ?_) (by rfl) ?_ ?_; rotate_left; focus ((go_simp; (try (first | with_reducible rfl | (constructor <;> with_reducible rfl)))))) | refine wpList_skip (by rfl) ?_
      (try simp only [Act.put, nA, nB, nC])
      first | (refine wpList_val (v := ?_) (by rfl) ?_ ?_; rotate_left; focus ((go_simp; (try (first | with_reducible rfl | (constructor <;> with_reducible rfl)))))) | refine wpList_skip (by rfl) ?_
      (try simp only [Act.put, nA, nB, nC])
      first | (refine wpList_val (v := ?_) (by rfl) ?_ ?_; rotate_left; focus ((go_simp; (try (first | with_reducible rfl | (constructor <;> with_reducible rfl)))))) | refine wpList_skip (by rfl) ?_
      (try simp only [Act.put, nA, nB, nC])
      first | (refine wpList_val (v := ?_) (by rfl) ?_ ?_; rotate_left; focus ((go_simp; (try (first | with_reducible rfl | (constructor <;> with_reducible rfl)))))) | refine wpList_skip (by rfl) ?_
      (try simp only [Act.put, nA, nB, nC])
      first | (refine wpList_val (v := ?_) (by rfl) ?_ ?_; rotate_left; focus ((go_simp; (try (first | with_reducible rfl | (constructor <;> with_reducible rfl)))))) | refine wpList_skip (by rfl) ?_
      (try simp only [Act.put, nA, nB, nC])
      refine wpList_val (v := ?_) rfl ?_ ?_
      rotate_left
      · (go_simp; (try (first | with_reducible rfl | (constructor <;> with_reducible rfl))))
      (try simp only [Act.put, nA, nB, nC])
      refine wpList_val (v := ?_) rfl ?_ ?_
      rotate_left
      · (go_simp; (try (first | with_reducible rfl | (constructor <;> with_reducible rfl))))
      (try simp only [Act.put, nA, nB, nC])
      refine wpList_nil ?_
      go_wp2_with fail
      go_ret
      exact ⟨rfl, B4.out⟩
theorem bias16_walk (X Y : Nat → Int) (us : Int) (w : World) :
    Calls Try.prog 6 #[.agg (arrv 3 X), .agg (arrv 3 Y), .int .i64 us] w fun e w' => e = .returned (.bool true) ∧ Below w.heap.size w w' := by
  by_cases h : us < 1000 ∨ 100000 < us
  · exact bias16_no X Y us w h
  · exact bias16_yes X Y us w (by omega) (by omega)
end Go.Proofs.Ytnnjcdbliaecgaa
