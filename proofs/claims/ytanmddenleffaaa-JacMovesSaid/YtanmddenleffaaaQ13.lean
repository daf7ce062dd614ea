/- Contracts of the program's functions and plain laws, part 13: they hold for all arguments. -/
import Derived.Test.YtanmddenleffaaaQ12
import Derived.Test.YtanmddenleffaaaQ09
import Derived.Test.YtanmddenleffaaaQ04
import Derived.Test.YtanmddenleffaaaProg
import Derived.Deep.AppendLies
import Derived.Test.YtanmddenleffaaaQ11
import Derived.Deep.MidRow
import Derived.Test.YtanmddenleffaaaQ03
import Derived.Test.YtanmddenleffaaaQ08
import Derived.Test.YtanmddenleffaaaQ06
/- Contracts of package rot (4): Exp. -/
namespace Go.Proofs.Ytanmddenleffaaa
open Go.RowKit
set_option maxRecDepth 100000
/-- The blocks of rot.Exp. -/
structure ExR (c : Addr) (h : Bool) (V : Nat → Int) (w wr : World) : Prop where
  upd : Upd c h w wr
  v : Blk wr w.heap.size 41 3 V
  r : Blk wr (w.heap.size + 1) 40 4 (fun _ => 0)
  cell : wr.cell? c = some (.bool h)
  free : wr.frozen? c = false
  cb : c.block < w.heap.size
theorem ExR.upd' {c : Addr} {h h' : Bool} {V : Nat → Int} {w wr w' : World} (s : ExR c h V w wr) (u : Upd c h' wr w') : ExR c h' V w w' := by
  have hcb := s.cb
  exact ⟨s.upd.trans u, s.v.upd u (by omega), s.r.upd u (by omega), u.cellc s.cell, (u.frozen (World.block_lt_of_cell? _ _ s.cell)).trans s.free, s.cb⟩
theorem ExR.down {c : Addr} {h : Bool} {V : Nat → Int} {w wr w' : World} (s : ExR c h V w wr) (u : Below wr.heap.size wr w') : ExR c h V w w' :=
  ⟨s.upd.then u, s.v.below u, s.r.below u, (u.cell (World.block_lt_of_cell? _ _ s.cell)).trans s.cell, (u.frozen (World.block_lt_of_cell? _ _ s.cell)).trans s.free, s.cb⟩
theorem ExR.drew {c : Addr} {h : Bool} {V : Nat → Int} {w wr : World} (s : ExR c h V w wr) : ExR c h V w wr.drew := s.down (Below.drew (Below.refl _ _))
theorem ExR.row {c : Addr} {h : Bool} {V : Nat → Int} {w wr : World} (s : ExR c h V w wr) (F : Nat → Int) : ExR c h F w (wr.setRow w.heap.size (arrv 3 F)) := by
  have hcb := s.cb
  exact ⟨s.upd.then' (below_row (Below.refl _ _) (by omega) _), s.v.setRow F, s.r.setRow_other _ (by omega), by rw [(cell_row_other _ (by omega)).1]; exact s.cell, by rw [(cell_row_other _ (by omega)).2]; exact s.free, s.cb⟩
theorem ex_start (c : Addr) (h : Bool) (V : Nat → Int) (w : World) (hc : w.cell? c = some (.bool h)) (hf : w.frozen? c = false) :
    ExR c h V w ((w.alloc (.cells (arrv 3 V) 41)).alloc (.cells #[.int .i64 0, .int .i64 0, .int .i64 0, .int .i64 0] 40)) := by
  have hcb := World.block_lt_of_cell? w c hc
  have bl : Below w.heap.size w ((w.alloc (.cells (arrv 3 V) 41)).alloc (.cells #[.int .i64 0, .int .i64 0, .int .i64 0, .int .i64 0] 40)) := by (repeat (first | with_reducible exact Below.refl _ _ | with_reducible apply Below.drew | (with_reducible refine below_drewN ?_ _) | (with_reducible refine Below.alloc ?_ (by (try simp) <;> omega) _) | (with_reducible refine Below.setCell ?_ (by (try simp) <;> omega) _)))
  refine ⟨Upd.then (Upd.refl hc) bl, ?_, ?_, (bl.cell hcb).trans hc, (bl.frozen hcb).trans hf, hcb⟩
  · exact (Blk.new w _ 3 V).alloc _
  · rw [zq4]; exact Blk.new1 w _ _ 4 _
set_option maxHeartbeats 16000000 in
theorem exp_any (c : Addr) (h : Bool) (V : Nat → Int) (w : World) (hc : w.cell? c = some (.bool h)) (hf : w.frozen? c = false) :
    Calls Try.prog 53 #[.pointer (some c), .agg (arrv 3 V)] w fun e w' => e = .returned (.agg (arrv 4 (exV V))) ∧ Upd c (h || exH V) w w' := by
  have S0 := Lib.hid (ex_start c h V w hc hf)
  have SC := fun (x : World) (k : x.cell? c = some (.bool h)) (f : x.frozen? c = false) => vsat_any c h V x k f
  obtain ⟨U, hU⟩ : ∃ x, satA V = x := ⟨_, rfl⟩
  have hU2 : (fun i => satV (V i)) = U := hU
  rw [hU2] at SC
  obtain ⟨H1, hH1⟩ : ∃ x, (h || orB (fun i => satH (V i)) 3) = x := ⟨_, rfl⟩
  rw [hH1] at SC
  have SC := Lib.hid SC
  have NC := fun (x : World) (k : x.cell? c = some (.bool H1)) (f : x.frozen? c = false) => vnorm_any c H1 U x k f
  obtain ⟨n, hn⟩ : ∃ x, hypV U 3 = x := ⟨_, rfl⟩
  obtain ⟨H2, hH2⟩ : ∃ x, (H1 || hypH U 3) = x := ⟨_, rfl⟩
  rw [hn, hH2] at NC
  have NC := Lib.hid NC
  have hx0 : (h || exH0 V) = H2 := by unfold exH0; rw [hU, ← hH2, ← hH1]; simp [Bool.or_assoc]
  have hxn : exU V = n := by unfold exU; rw [hU]; exact hn
  clear hc hf
  by_cases hz : n = 0
  · have HV := Lib.hid (show exV V = oneQ ∧ (h || exH V) = H2 by
      unfold exV exH; rw [hxn, if_pos hz, if_pos hz, Bool.or_false]; exact ⟨rfl, hx0⟩)
    subst hz
    clear hn hxn hx0 hH1 hH2 hU hU2
    go_enter Try.func53, Try.ntmps53
    go_upto_region 1 with fail
    generalize (w.alloc (.cells (arrv 3 V) 41)).alloc (.cells #[.int .i64 0, .int .i64 0, .int .i64 0, .int .i64 0] 40) = W0 at *
    have P0 := S0.out.v
    go_upto_region 2 with (first | (refine wpList_load_row rfl 41 _ rfl (w.heap.size) rfl 41 _ (0, 0) _ (P0) Try.underlying41 rfl (iv3.trans (by rw [arrv_size])) ?_) | (go_at_call 36; (refine (SC.out _ S0.out.cell S0.out.free).mono ?_); rintro e w1 ⟨rfl, hu1⟩; have S1 := Lib.hid (S0.out.upd' hu1); have P1 := S1.out.v; clear hu1) | (refine wpList_store_row rfl 41 _ _ rfl (w.heap.size) _ rfl rfl 41 _ (P1) (iv3.trans (by rw [arrv_size])) (by rw [arrv_size, arrv_size]) (oneCell_arrv _ _) ?_))
    have S2 := Lib.hid (S1.out.row U)
    generalize w1.setRow w.heap.size (arrv 3 U) = W2 at *
    clear P0 P1 S1 S0 SC
    have P2 := S2.out.v
    go_upto_region 4 with (first | (refine wpList_load_row rfl 41 _ rfl (w.heap.size) rfl 41 _ (0, 0) _ (P2) Try.underlying41 rfl (iv3.trans (by rw [arrv_size])) ?_) | (go_at_call 74; (refine (NC.out _ S2.out.cell S2.out.free).mono ?_); rintro e w3 ⟨rfl, hu3⟩; have S3 := Lib.hid (S2.out.upd' hu3); clear hu3))
    clear P2 S2 NC
    have B1 := S3.out.r
    go_wp2_with (first | (go_at_call 21; (refine (qone_any _).mono ?_); rintro e w4 ⟨rfl, hb4⟩; have R4 := B1.below hb4; have U4 := Lib.hid (S3.out.upd.then hb4); clear hb4) | (refine wpList_store_row rfl 40 _ _ rfl (w.heap.size + 1) _ rfl rfl 40 _ (R4) (iqt.trans (by rw [arrv_size])) (by rw [arrv_size, arrv_size]) (oneCell_arrv _ _) ?_))
    refine bodyPost_ret (results_cell_row Try.results53 _ _ (w.heap.size + 1) 40 (arrv 4 oneQ) (0, 0) _ rfl (setRow_heap _ _ _ _ _ _ R4) Try.underlying40 rfl (iqt.trans (by rw [arrv_size]))) rfl ⟨by rw [HV.out.1], ?_⟩
    rw [HV.out.2]
    exact U4.out.then' (below_row (Below.refl _ _) (by omega) _)
  · have nz : (n == 0) = false := by simpa using hz
    have MC := fun (x : World) (k : x.cell? c = some (.bool H2)) (f : x.frozen? c = false) => fmul_any c H2 n 536870912 30 x k f
    obtain ⟨M, hM⟩ : ∃ x, mulV n 536870912 30 = x := ⟨_, rfl⟩
    obtain ⟨H3, hH3⟩ : ∃ x, (H2 || mulH n 536870912 30) = x := ⟨_, rfl⟩
    rw [hM, hH3] at MC
    have NN := fun (x : World) (k : x.cell? c = some (.bool H3)) (f : x.frozen? c = false) => sin_any c H3 M x k f
    obtain ⟨S, hS⟩ : ∃ x, sinV M = x := ⟨_, rfl⟩
    obtain ⟨H4, hH4⟩ : ∃ x, (H3 || sinH M) = x := ⟨_, rfl⟩
    rw [hS, hH4] at NN
    have DC := fun (x : World) (k : x.cell? c = some (.bool H4)) (f : x.frozen? c = false) => fdiv_any c H4 S n 30 x k f
    obtain ⟨D, hD⟩ : ∃ x, divV S n 30 = x := ⟨_, rfl⟩
    obtain ⟨H5, hH5⟩ : ∃ x, (H4 || divH S n 30) = x := ⟨_, rfl⟩
    rw [hD, hH5] at DC
    have CC := fun (x : World) (k : x.cell? c = some (.bool H5)) (f : x.frozen? c = false) => cos_any c H5 M x k f
    obtain ⟨C, hC⟩ : ∃ x, cosV M = x := ⟨_, rfl⟩
    obtain ⟨H6, hH6⟩ : ∃ x, (H5 || cosH M) = x := ⟨_, rfl⟩
    rw [hC, hH6] at CC
    obtain ⟨x0, hx0'⟩ : ∃ x, U 0 = x := ⟨_, rfl⟩
    obtain ⟨x1, hx1'⟩ : ∃ x, U 1 = x := ⟨_, rfl⟩
    obtain ⟨x2, hx2'⟩ : ∃ x, U 2 = x := ⟨_, rfl⟩
    have QC := fun (x : World) (g : Bool) (k : x.cell? c = some (.bool g)) (f : x.frozen? c = false) => qunit_any c g (q4 C (mulV x0 D 30) (mulV x1 D 30) (mulV x2 D 30)) x k f
    have hQ : exQ V = q4 C (mulV x0 D 30) (mulV x1 D 30) (mulV x2 D 30) := by
      unfold exQ exS exM; rw [hU, hxn, hM, hS, hD, hC, hx0', hx1', hx2']
    obtain ⟨y0, hy0⟩ : ∃ x, mulV x0 D 30 = x := ⟨_, rfl⟩
    obtain ⟨y1, hy1⟩ : ∃ x, mulV x1 D 30 = x := ⟨_, rfl⟩
    obtain ⟨y2, hy2⟩ : ∃ x, mulV x2 D 30 = x := ⟨_, rfl⟩
    rw [hy0, hy1, hy2] at QC hQ
    have HV := Lib.hid (show exV V = uniV (q4 C y0 y1 y2) ∧ (h || exH V) = (H6 || mulH x0 D 30 || mulH x1 D 30 || mulH x2 D 30 || uniH (q4 C y0 y1 y2)) by
      unfold exV exH
      rw [hxn, if_neg hz, if_neg hz, hQ]
      refine ⟨rfl, ?_⟩
      unfold exH1 exS exM
      rw [hQ, hU, hxn, hM, hS, hD, hx0', hx1', hx2', ← Bool.or_assoc, hx0, ← hH6, ← hH5, ← hH4, ← hH3]
      simp [Bool.or_assoc])
    have HX := Lib.hid (And.intro hx0' (And.intro hx1' hx2'))
    have HY := Lib.hid (And.intro hy0 (And.intro hy1 hy2))
    have MC := Lib.hid MC
    have NN := Lib.hid NN
    have DC := Lib.hid DC
    have CC := Lib.hid CC
    have QC := Lib.hid QC
    clear hn hxn hx0 hH1 hH2 hU hU2 hM hS hD hC hH3 hH4 hH5 hH6 hx0' hx1' hx2' hy0 hy1 hy2 hQ hz
    go_enter Try.func53, Try.ntmps53
    go_upto_region 1 with fail
    generalize (w.alloc (.cells (arrv 3 V) 41)).alloc (.cells #[.int .i64 0, .int .i64 0, .int .i64 0, .int .i64 0] 40) = W0 at *
    have P0 := S0.out.v
    go_upto_region 2 with (first | (refine wpList_load_row rfl 41 _ rfl (w.heap.size) rfl 41 _ (0, 0) _ (P0) Try.underlying41 rfl (iv3.trans (by rw [arrv_size])) ?_) | (go_at_call 36; (refine (SC.out _ S0.out.cell S0.out.free).mono ?_); rintro e w1 ⟨rfl, hu1⟩; have S1 := Lib.hid (S0.out.upd' hu1); have P1 := S1.out.v; clear hu1) | (refine wpList_store_row rfl 41 _ _ rfl (w.heap.size) _ rfl rfl 41 _ (P1) (iv3.trans (by rw [arrv_size])) (by rw [arrv_size, arrv_size]) (oneCell_arrv _ _) ?_))
    have S2 := Lib.hid (S1.out.row U)
    generalize w1.setRow w.heap.size (arrv 3 U) = W2 at *
    clear P0 P1 S1 S0 SC
    have P2 := S2.out.v
    go_upto_region 5 with (first | (refine wpList_load_row rfl 41 _ rfl (w.heap.size) rfl 41 _ (0, 0) _ (P2) Try.underlying41 rfl (iv3.trans (by rw [arrv_size])) ?_) | (go_at_call 74; (refine (NC.out _ S2.out.cell S2.out.free).mono ?_); rintro e w3 ⟨rfl, hu3⟩; have S3 := Lib.hid (S2.out.upd' hu3); clear hu3))
    clear P2 S2 NC
    go_upto_region 7 with (first | (go_at_call 20; (refine (MC.out _ S3.out.cell S3.out.free).mono ?_); rintro e w4 ⟨rfl, hu4⟩; have S4 := Lib.hid (S3.out.upd' hu4); clear hu4 S3) | (go_at_call 43; (refine (NN.out _ S4.out.cell S4.out.free).mono ?_); rintro e w5 ⟨rfl, hu5⟩; have S5 := Lib.hid (S4.out.upd' hu5); clear hu5 S4) | (go_at_call 32; (refine (DC.out _ S5.out.cell S5.out.free).mono ?_); rintro e w6 ⟨rfl, hu6⟩; have S6 := Lib.hid (S5.out.upd' hu6); clear hu6 S5))
    have HS := Lib.hid S6.out.drew
    clear S6
    refine wp_region_M (fun w' => w'.cell? ⟨w.heap.size, 0, none⟩ = some (.int .i64 x0) ∧ w'.cell? ⟨w.heap.size, 1, none⟩ = some (.int .i64 x1) ∧ w'.cell? ⟨w.heap.size, 2, none⟩ = some (.int .i64 x2)) 21 (by kernel_rfl) ?_ (fun hHeld => ?_)
    · exact ⟨by rw [← HX.out.1]; exact HS.out.v.cell (by decide), by rw [← HX.out.2.1]; exact HS.out.v.cell (by decide), by rw [← HX.out.2.2]; exact HS.out.v.cell (by decide)⟩
    refine wpAnyM_take 0 (v := ?_) rfl (by kernel_rfl) (fun _ _ _ h => h) (Or.inl ⟨by rfl, ?_⟩) (by assumption) ?_
    rotate_left
    · (intro wx hSw; (try dsimp only at hSw); go_simp; (try with_reducible rfl))
    (try simp only [Act.put, nA, nB, nC])
    refine wpAnyM_take 1 (v := ?_) rfl (by kernel_rfl) (fun _ _ _ h => h) (Or.inl ⟨by rfl, ?_⟩) (by assumption) ?_
    rotate_left
    · (intro wx hSw; (try dsimp only at hSw); go_simp; (try with_reducible rfl))
    (try simp only [Act.put, nA, nB, nC])
    refine wpAnyM_take 2 (v := ?_) rfl (by kernel_rfl) (fun _ _ _ h => h) (Or.inl ⟨by rfl, ?_⟩) (by assumption) ?_
    rotate_left
    · (intro wx hSw; (try dsimp only at hSw); go_simp; (try with_reducible rfl))
    (try simp only [Act.put, nA, nB, nC])
    refine wpAnyM_take 4 (v := ?_) rfl (by kernel_rfl) (fun _ _ _ h => h) (Or.inl ⟨by rfl, ?_⟩) (by assumption) ?_
    rotate_left
    · (intro wx hSw; (try dsimp only at hSw); go_simp; (try with_reducible rfl))
    (try simp only [Act.put, nA, nB, nC])
    refine wpAnyM_take 5 (v := ?_) rfl (by kernel_rfl) (fun _ _ _ h => h) (Or.inl ⟨by rfl, ?_⟩) (by assumption) ?_
    rotate_left
    · (intro wx hSw; (try dsimp only at hSw); go_simp; (try with_reducible rfl))
    (try simp only [Act.put, nA, nB, nC])
    refine wpAnyM_take 6 (v := ?_) rfl (by kernel_rfl) (fun _ _ _ h => h) (Or.inl ⟨by rfl, ?_⟩) (by assumption) ?_
    rotate_left
    · (intro wx hSw; (try dsimp only at hSw); go_simp; (try with_reducible rfl))
    (try simp only [Act.put, nA, nB, nC])
    refine wpAnyM_take 7 (v := ?_) rfl (by kernel_rfl) (fun _ _ _ h => h) (Or.inl ⟨by rfl, ?_⟩) (by assumption) ?_
    rotate_left
    · (intro wx hSw; (try dsimp only at hSw); go_simp; (try with_reducible rfl))
    (try simp only [Act.put, nA, nB, nC])
    refine wpAnyM_take 9 (v := ?_) rfl (by kernel_rfl) (fun _ _ _ h => h) (Or.inl ⟨by rfl, ?_⟩) (by assumption) ?_
    rotate_left
    · (intro wx hSw; (try dsimp only at hSw); go_simp; (try with_reducible rfl))
    (try simp only [Act.put, nA, nB, nC])
    refine wpAnyM_take 10 (v := ?_) rfl (by kernel_rfl) (fun _ _ _ h => h) (Or.inl ⟨by rfl, ?_⟩) (by assumption) ?_
    rotate_left
    · (intro wx hSw; (try dsimp only at hSw); go_simp; (try with_reducible rfl))
    (try simp only [Act.put, nA, nB, nC])
    refine wpAnyM_take 11 (v := ?_) rfl (by kernel_rfl) (fun _ _ _ h => h) (Or.inl ⟨by rfl, ?_⟩) (by assumption) ?_
    rotate_left
    · (intro wx hSw; (try dsimp only at hSw); go_simp; (try with_reducible rfl))
    (try simp only [Act.put, nA, nB, nC])
    refine wpAnyM_take 12 (v := ?_) rfl (by kernel_rfl) (fun _ _ _ h => h) (Or.inl ⟨by rfl, ?_⟩) (by assumption) ?_
    rotate_left
    · (intro wx hSw; (try dsimp only at hSw); go_simp; (try with_reducible rfl))
    (try simp only [Act.put, nA, nB, nC])
    refine wpAnyM_take 14 (v := ?_) rfl (by kernel_rfl) (fun _ _ _ h => h) (Or.inl ⟨by rfl, ?_⟩) (by assumption) ?_
    rotate_left
    · (intro wx hSw; (try dsimp only at hSw); go_simp; (try with_reducible rfl))
    (try simp only [Act.put, nA, nB, nC])
    refine wpAnyM_take 15 (v := ?_) rfl (by kernel_rfl) (fun _ _ _ h => h) (Or.inl ⟨by rfl, ?_⟩) (by assumption) ?_
    rotate_left
    · (intro wx hSw; (try dsimp only at hSw); go_simp; (try with_reducible rfl))
    (try simp only [Act.put, nA, nB, nC])
    refine wpAnyM_take 16 (v := ?_) rfl (by kernel_rfl) (fun _ _ _ h => h) (Or.inl ⟨by rfl, ?_⟩) (by assumption) ?_
    rotate_left
    · (intro wx hSw; (try dsimp only at hSw); go_simp; (try with_reducible rfl))
    (try simp only [Act.put, nA, nB, nC])
    refine wpAnyM_take 17 (v := ?_) rfl (by kernel_rfl) (fun _ _ _ h => h) (Or.inl ⟨by rfl, ?_⟩) (by assumption) ?_
    rotate_left
    · (intro wx hSw; (try dsimp only at hSw); go_simp; (try with_reducible rfl))
    (try simp only [Act.put, nA, nB, nC])
    refine wpAnyM_oneS 3 rfl (by kernel_rfl) (fun K hK => ?_)
    go_simp
    (refine (CC.out _ HS.out.cell HS.out.free).mono ?_); rintro e w7 ⟨rfl, hu⟩; have HT := Lib.hid (HS.out.upd' hu); clear HS hu; have HS := HT; clear HT
    (try dsimp only)
    (try simp only [Act.put, nA, nB, nC])
    clear hHeld
    refine hK.out _ _ ?_ (fun hHeld => ?_)
    · exact ⟨by rw [← HX.out.1]; exact HS.out.v.cell (by decide), by rw [← HX.out.2.1]; exact HS.out.v.cell (by decide), by rw [← HX.out.2.2]; exact HS.out.v.cell (by decide)⟩
    clear hK K
    (try simp only [Act.put, nA, nB, nC])
    refine wpAnyM_oneS 8 rfl (by kernel_rfl) (fun K hK => ?_)
    go_simp
    (refine (fmul_any c _ x0 D 30 _ HS.out.cell HS.out.free).mono ?_); (rw [HY.out.1]); rintro e w8 ⟨rfl, hu⟩; have HT := Lib.hid (HS.out.upd' hu); clear HS hu; have HS := HT; clear HT
    (try dsimp only)
    (try simp only [Act.put, nA, nB, nC])
    clear hHeld
    refine hK.out _ _ ?_ (fun hHeld => ?_)
    · exact ⟨by rw [← HX.out.1]; exact HS.out.v.cell (by decide), by rw [← HX.out.2.1]; exact HS.out.v.cell (by decide), by rw [← HX.out.2.2]; exact HS.out.v.cell (by decide)⟩
    clear hK K
    (try simp only [Act.put, nA, nB, nC])
    refine wpAnyM_oneS 13 rfl (by kernel_rfl) (fun K hK => ?_)
    go_simp
    (refine (fmul_any c _ x1 D 30 _ HS.out.cell HS.out.free).mono ?_); (rw [HY.out.2.1]); rintro e w9 ⟨rfl, hu⟩; have HT := Lib.hid (HS.out.upd' hu); clear HS hu; have HS := HT; clear HT
    (try dsimp only)
    (try simp only [Act.put, nA, nB, nC])
    clear hHeld
    refine hK.out _ _ ?_ (fun hHeld => ?_)
    · exact ⟨by rw [← HX.out.1]; exact HS.out.v.cell (by decide), by rw [← HX.out.2.1]; exact HS.out.v.cell (by decide), by rw [← HX.out.2.2]; exact HS.out.v.cell (by decide)⟩
    clear hK K
    (try simp only [Act.put, nA, nB, nC])
    refine wpAnyM_oneS 18 rfl (by kernel_rfl) (fun K hK => ?_)
    go_simp
    (refine (fmul_any c _ x2 D 30 _ HS.out.cell HS.out.free).mono ?_); (rw [HY.out.2.2]); rintro e w10 ⟨rfl, hu⟩; have HT := Lib.hid (HS.out.upd' hu); clear HS hu; have HS := HT; clear HT
    (try dsimp only)
    (try simp only [Act.put, nA, nB, nC])
    clear hHeld
    refine hK.out _ _ ?_ (fun hHeld => ?_)
    · exact ⟨by rw [← HX.out.1]; exact HS.out.v.cell (by decide), by rw [← HX.out.2.1]; exact HS.out.v.cell (by decide), by rw [← HX.out.2.2]; exact HS.out.v.cell (by decide)⟩
    clear hK K
    (try simp only [Act.put, nA, nB, nC])
    refine wpAnyM_take 19 (v := ?_) rfl (by kernel_rfl) (fun _ _ _ h => h) (Or.inl ⟨by rfl, ?_⟩) (by assumption) ?_
    rotate_left
    · (intro wx hSw; refine Eq.trans (run_build_q4 (.tmp 29) (.tmp 34) (.tmp 39) (.tmp 44) (by rfl) (by rfl) (by rfl) (by rfl) (by rfl)) ?_; with_reducible rfl)
    (try simp only [Act.put, nA, nB, nC])
    refine wpAnyM_oneS 20 rfl (by kernel_rfl) (fun K hK => ?_)
    go_simp
    (refine (QC.out _ _ HS.out.cell HS.out.free).mono ?_); rintro e w11 ⟨rfl, hu⟩; have HT := Lib.hid (HS.out.upd' hu); clear HS hu; have HS := HT; clear HT
    (try dsimp only)
    (try simp only [Act.put, nA, nB, nC])
    clear hHeld
    refine hK.out _ _ ?_ (fun hHeld => ?_)
    · exact ⟨by rw [← HX.out.1]; exact HS.out.v.cell (by decide), by rw [← HX.out.2.1]; exact HS.out.v.cell (by decide), by rw [← HX.out.2.2]; exact HS.out.v.cell (by decide)⟩
    clear hK K
    (try simp only [Act.put, nA, nB, nC])
    refine wpAnyM_one 21 rfl (by kernel_rfl) (fun K hK => ?_)
    go_simp; rw [if_pos (arrv_size _ _), run_storeCells_row _ HS.out.r]; go_simp
    refine hK.out _ _ (.inl (by kernel_rfl)) (fun _ => ?_)
    clear hK K
    (try simp only [Act.put, nA, nB, nC])
    refine wpAnyM_done (by kernel_rfl) ?_ _
    obtain ⟨E, hE⟩ : ∃ x, uniV (q4 C y0 y1 y2) = x := ⟨_, rfl⟩
    have r1 := HS.out.r.setRow E
    have B1 := HS.out.upd.then' (below_row (Below.refl _ _) (show w.heap.size ≤ w.heap.size + 1 by omega) (arrv 4 E))
    rw [hE]
    rw [← HV.out.2] at B1
    have HE := Lib.hid (show exV V = E by rw [HV.out.1, hE])
    clear hE
    generalize w11.setRow (w.heap.size + 1) (arrv 4 E) = W12 at *
    go_wp2_with fail
    refine bodyPost_ret (results_cell_row Try.results53 _ _ (w.heap.size + 1) 40 (arrv 4 E) (0, 0) _ rfl r1 Try.underlying40 rfl (iqt.trans (by rw [arrv_size]))) rfl ⟨by rw [HE.out], B1⟩
end Go.Proofs.Ytanmddenleffaaa
/- append of one number of int64 to a slice of the call's own. -/
namespace Go.Proofs.Ytanmddenleffaaa
open Go.RowKit
open Go
theorem info_i64 : (Try.prog.info? 2).map (fun i => (i.zero, i.size, i.bytes)) = some (some (.int .i64 0), 1, 8) := by kernel_rfl
theorem info_i64' : ∃ i, Try.prog.info? 2 = some i ∧ i.zero = some (.int .i64 0) ∧ i.size = 1 ∧ i.bytes = 8 := by
  have h := info_i64
  cases e : Try.prog.info? 2 with
  | none => rw [e] at h; cases h
  | some i => rw [e] at h; simp at h; exact ⟨i, rfl, h.1, h.2.1, h.2.2⟩
end Go.Proofs.Ytanmddenleffaaa
/- Contracts of package vec (2): Add. -/
namespace Go.Proofs.Ytanmddenleffaaa
open Go.RowKit
set_option maxRecDepth 100000
/-- Vectors side by side. -/
def VLs (w : World) (p o n : Nat) (L : Nat → Nat → Int) : Prop := ∀ j, j < n → ∀ k, k < 3 → w.cell? ⟨p, o + j * 3 + k, none⟩ = some (.int .i64 (L j k))
theorem VLs.upd {w w' : World} {p o n : Nat} {L : Nat → Nat → Int} {c : Addr} {h h' : Bool} (s : VLs w p o n L) (hc : w.cell? c = some (.bool h)) (u : Upd c h' w w') : VLs w' p o n L := fun j hj k hk => by
  have q := s j hj k hk
  rw [u.cell (World.block_lt_of_cell? w _ q) (fun e => by rw [e] at hc; rw [hc] at q; cases q), q]
theorem VLs.below {w w' : World} {p o n : Nat} {L : Nat → Nat → Int} (s : VLs w p o n L) (u : Below w.heap.size w w') : VLs w' p o n L := fun j hj k hk => by
  have q := s j hj k hk
  exact (u.cell (World.block_lt_of_cell? w _ q)).trans q
/-- The blocks of vec.Add. -/
structure VaR (c : Addr) (h : Bool) (p o n : Nat) (L : Nat → Nat → Int) (F : Nat → Int) (w wr : World) : Prop where
  upd : Upd c h w wr
  r : Blk wr w.heap.size 41 3 (fun _ => 0)
  ou : Blk wr (w.heap.size + 1) 41 3 F
  ls : VLs wr p o n L
  cell : wr.cell? c = some (.bool h)
  free : wr.frozen? c = false
  cb : c.block < w.heap.size
  pb : p < w.heap.size
theorem VaR.upd' {c : Addr} {h h' : Bool} {p o n : Nat} {L : Nat → Nat → Int} {F : Nat → Int} {w wr w' : World} (s : VaR c h p o n L F w wr) (u : Upd c h' wr w') : VaR c h' p o n L F w w' := by
  have hcb := s.cb
  exact ⟨s.upd.trans u, s.r.upd u (by omega), s.ou.upd u (by omega), s.ls.upd s.cell u, u.cellc s.cell, (u.frozen (World.block_lt_of_cell? _ _ s.cell)).trans s.free, s.cb, s.pb⟩
theorem VaR.down {c : Addr} {h : Bool} {p o n : Nat} {L : Nat → Nat → Int} {F : Nat → Int} {w wr w' : World} (s : VaR c h p o n L F w wr) (u : Below wr.heap.size wr w') : VaR c h p o n L F w w' :=
  ⟨s.upd.then u, s.r.below u, s.ou.below u, s.ls.below u, (u.cell (World.block_lt_of_cell? _ _ s.cell)).trans s.cell, (u.frozen (World.block_lt_of_cell? _ _ s.cell)).trans s.free, s.cb, s.pb⟩
theorem VaR.set {c : Addr} {h : Bool} {p o n : Nat} {L : Nat → Nat → Int} {F : Nat → Int} {w wr : World} (s : VaR c h p o n L F w wr) (i : Nat) (x : Int) : VaR c h p o n L (Go.Proofs.Ytanmddenleffaaa.upd F i x) w (wr.setCell ⟨w.heap.size + 1, i, none⟩ (.int .i64 x)) := by
  have hcb := s.cb
  have hpb := s.pb
  exact ⟨s.upd.setCell (by first | omega | (simp; done) | (simp; omega)) _, s.r.other (by first | omega | (simp; done) | (simp; omega)) _, s.ou.set _ _, fun j hj k hk => by rw [World.cell?_setCell_other _ _ _ _ (fun e => by have := congrArg Addr.block e; dsimp only at this; omega)]; exact s.ls j hj k hk, by rw [World.cell?_setCell_other _ _ _ _ (fun e => by rw [← e] at hcb; dsimp only at hcb; omega)]; exact s.cell, by rw [World.frozen?_setCell]; exact s.free, s.cb, s.pb⟩
theorem VaR.congr {c : Addr} {h h' : Bool} {p o n : Nat} {L : Nat → Nat → Int} {F G : Nat → Int} {w wr : World} (s : VaR c h p o n L F w wr) (eh : h = h') (e : ∀ i, i < 3 → F i = G i) : VaR c h' p o n L G w wr := by
  subst eh; exact ⟨s.upd, s.r, s.ou.congr e, s.ls, s.cell, s.free, s.cb, s.pb⟩
theorem VaR.row {c : Addr} {h : Bool} {p o n : Nat} {L : Nat → Nat → Int} {F : Nat → Int} {w wr : World} (s : VaR c h p o n L F w wr) (hz : w.heap.size + 1 + 1 ≤ wr.heap.size) (G : Nat → Int) :
    VaR c h p o n L F w ((wr.alloc (.cells #[.int .i64 0, .int .i64 0, .int .i64 0] 41)).setRow wr.heap.size (arrv 3 G)) ∧ Blk ((wr.alloc (.cells #[.int .i64 0, .int .i64 0, .int .i64 0] 41)).setRow wr.heap.size (arrv 3 G)) wr.heap.size 41 3 G ∧ Below wr.heap.size wr ((wr.alloc (.cells #[.int .i64 0, .int .i64 0, .int .i64 0] 41)).setRow wr.heap.size (arrv 3 G)) := by
  have b0 : Below wr.heap.size wr ((wr.alloc (.cells #[.int .i64 0, .int .i64 0, .int .i64 0] 41)).setRow wr.heap.size (arrv 3 G)) := below_row ((Below.refl _ _).alloc (Nat.le_refl _) _) (Nat.le_refl _) _
  refine ⟨s.down b0, ?_, b0⟩
  rw [zv3]; exact (Blk.new wr _ 3 _).setRow G
end Go.Proofs.Ytanmddenleffaaa
/- Contract of fx.MulDiv. -/
namespace Go.Proofs.Ytanmddenleffaaa
open Go.RowKit
set_option maxRecDepth 100000
theorem mdiv_walk (c : Addr) (h : Bool) (a b d x y z A V : Int) (H : Bool) (w : World) (hc : w.cell? c = some (.bool h)) (hf : w.frozen? c = false)
    (hx : satV a = x) (hy : satV b = y) (hz : satV d = z)
    (hm : ∀ w, Calls Try.prog 40 #[.int .i64 x, .int .i64 y] w fun e w' => e = .returned (.agg #[.int .i64 (hi64 A), .int .u64 (lo64 A)]) ∧ Below w.heap.size w w')
    (hr : ∀ w, w.cell? c = some (.bool (h || satH a || satH b || satH d)) → w.frozen? c = false → Calls Try.prog 57 #[.pointer (some c), .agg #[.int .i64 (hi64 A), .int .u64 (lo64 A)], .int .i64 z] w fun e w' =>
      e = .returned (.int .i64 V) ∧ Upd c H w w') :
    Calls Try.prog 29 #[.pointer (some c), .int .i64 a, .int .i64 b, .int .i64 d] w fun e w' => e = .returned (.int .i64 V) ∧ Upd c H w w' := by
  have hcb := World.block_lt_of_cell? w c hc
  have c1 : (w.setCell c (.bool (h || satH a))).cell? c = some (.bool (h || satH a)) := World.cell?_setCell_same _ _ _ hc
  have c2 : ((w.setCell c (.bool (h || satH a))).setCell c (.bool (h || satH a || satH b))).cell? c = some (.bool (h || satH a || satH b)) := World.cell?_setCell_same _ _ _ c1
  have HM := Lib.hid hm
  have HR := Lib.hid hr
  have C2 := Lib.hid c2
  clear hm hr c2
  go_enter Try.func29, Try.ntmps29
  go_wp2_with fail
  refine (sat_any c h a _ hc hf).mono ?_; rintro e w' ⟨rfl, rfl⟩
  go_wp2_with fail
  refine (sat_any c _ b _ c1 (by simp [hf])).mono ?_; rintro e w' ⟨rfl, rfl⟩
  have HW := Lib.hid (Upd.trans (Upd.set c (h || satH a) w) (Upd.set c (h || satH a || satH b) _))
  have F2 : ((w.setCell c (.bool (h || satH a))).setCell c (.bool (h || satH a || satH b))).frozen? c = false := by simp [hf]
  have Z2 := Upd.size HW.out
  obtain ⟨w2, hw2⟩ : ∃ w2, (w.setCell c (.bool (h || satH a))).setCell c (.bool (h || satH a || satH b)) = w2 := ⟨_, rfl⟩
  rw [hw2] at HW C2 F2 Z2 ⊢
  clear hw2 c1 hc hf
  go_wp2_with fail
  refine (HM.out _).mono ?_; rintro e w3 ⟨rfl, hb3⟩
  have k1 : w3.cell? c = some (.bool (h || satH a || satH b)) := (hb3.cell (by omega)).trans C2.out
  have k2 : w3.frozen? c = false := (hb3.frozen (by omega)).trans F2
  go_wp2_with fail
  refine (sat_any c _ d _ k1 k2).mono ?_; rintro e w' ⟨rfl, rfl⟩
  have k3 : (w3.setCell c (.bool (h || satH a || satH b || satH d))).cell? c = some (.bool (h || satH a || satH b || satH d)) := World.cell?_setCell_same _ _ _ k1
  go_wp2_with fail
  refine (HR.out _ k3 (by simp [k2])).mono ?_; rintro e w4 ⟨rfl, hu4⟩
  go_wp2_with fail
  go_ret
  refine ⟨rfl, ?_⟩
  exact HW.out.trans (Upd.after hb3 ((Upd.set c _ w3).trans hu4))
theorem mdiv_any (c : Addr) (h : Bool) (a b d : Int) (w : World) (hc : w.cell? c = some (.bool h)) (hf : w.frozen? c = false) :
    Calls Try.prog 29 #[.pointer (some c), .int .i64 a, .int .i64 b, .int .i64 d] w fun e w' => e = .returned (.int .i64 (mdivV a b d)) ∧ Upd c (h || mdivH a b d) w w' := by
  have ha := satV_bd a
  have hb := satV_bd b
  have hd := satV_bd d
  have hp := prod_bd a b
  have e2 : (h || mdivH a b d) = ((h || satH a || satH b || satH d) || byH (satV a * satV b) (satV d)) := by simp [mdivH, Bool.or_assoc]
  rw [e2]
  exact mdiv_walk c h a b d _ _ _ _ _ _ w hc hf rfl rfl rfl (fun w => mul_any _ _ _ w (by omega) (by omega) (by omega) (by omega) rfl (by omega) (by omega))
      (fun w k1 k2 => by_any c _ _ _ w k1 k2 (by omega) (by omega) (by omega) (by omega))
end Go.Proofs.Ytanmddenleffaaa
/- Numbers stored inside a block. -/
namespace Go.Proofs.Ytanmddenleffaaa
open Go.RowKit
def putF (f : Nat → Int) (o n : Nat) (F : Nat → Int) : Nat → Int := fun i => if o ≤ i ∧ i < o + n then F (i - o) else f i
theorem arrv_splice (N o n : Nat) (f F : Nat → Int) (h : o + n ≤ N) : ((arrv N f).toList.take o ++ (arrv n F).toList ++ (arrv N f).toList.drop (o + n)).toArray = arrv N (putF f o n F) := by
  have l1 : ((arrv N f).toList.take o ++ (arrv n F).toList ++ (arrv N f).toList.drop (o + n)).length = N := by simp [arrv_size]; omega
  apply Array.ext_getElem?
  intro i
  by_cases hi : i < N
  · rw [arrv_get hi]
    unfold putF
    simp only [List.getElem?_toArray]
    by_cases h1 : i < o
    · rw [if_neg (by omega), List.append_assoc, List.getElem?_append_left (by simp [arrv_size]; omega), List.getElem?_take, if_pos h1, Array.getElem?_toList, arrv_get hi]
    · by_cases h2 : i < o + n
      · rw [if_pos (by omega), List.getElem?_append_left (by simp [arrv_size]; omega), List.getElem?_append_right (by simp [arrv_size]; omega)]
        simp only [List.length_take, Array.length_toList, arrv_size, Array.getElem?_toList]
        rw [show i - min o N = i - o by omega, arrv_get (by omega)]
      · rw [if_neg (by omega), List.getElem?_append_right (by simp [arrv_size]; omega)]
        simp only [List.length_append, List.length_take, Array.length_toList, arrv_size, List.getElem?_drop, Array.getElem?_toList]
        rw [show o + n + (i - (min o N + n)) = i by omega, arrv_get hi]
  · rw [Array.getElem?_eq_none (xs := arrv N _) (by rw [arrv_size]; omega), Array.getElem?_eq_none (by simp only [List.size_toArray]; omega)]
open Go in
theorem run_storeCells_sub {P : Program} {w : World} {g T N : Nat} {f : Nat → Int} (F : Nat → Int) (o n : Nat) (h : Blk w g T N f) (hon : o + n ≤ N) :
    (storeCells ⟨g, o, none⟩ (arrv n F).toList).run P w = .ok () (w.setRow g (arrv N (putF f o n F))) := by
  have e := run_storeCells_at (P := P) g o T (arrv n F).toList 0 (arrv N f) w h (by simp [arrv_size]; omega) (fun v hv => (Array.all_eq_true'.1 (oneCell_arrv n F)) v (by simpa using hv))
  rw [e]
  congr 2
  simp only [Nat.add_zero, Array.length_toList, arrv_size]
  exact arrv_splice N o n f F hon
open Go in
theorem run_store_sub {P : Program} {ev : Operand → Value} {o' : Oper} {w : World} (ty : TypeId) (x y : Operand) (ho : o'.op = .store ty x y)
    (g o : Nat) (hx : ev x = .pointer (some ⟨g, o, none⟩)) {T N n : Nat} {F f : Nat → Int} (hy : ev y = .agg (arrv n F)) (hg : Blk w g T N f) (hon : o + n ≤ N) (hi : (P.info? ty).map (·.size) = some n) :
    (execOp ev o').run P w = .ok .skip (w.setRow g (arrv N (putF f o n F))) := by
  have h := run_storeCells_sub (P := P) F o n hg hon
  have hs : (storeVar ty ⟨g, o, none⟩ (.agg (arrv n F))).run P w = .ok () (w.setRow g (arrv N (putF f o n F))) := by
    cases hq : P.info? ty with
    | none => simp [hq] at hi
    | some i =>
      have hs : n = i.size := by simp [hq] at hi; omega
      have hz : (arrv n F).size = i.size := by rw [arrv_size]; exact hs
      simp [storeVar, sizeOf, typeInfo, hq, Value.cells, hz, h]
  unfold execOp
  simp only [ho, hx, hy, Instr.storeAt, Instr.sureAddr, Sem.run_bind, Sem.run_pure, Result.andThen_ok, hs]
end Go.Proofs.Ytanmddenleffaaa
/- The parts of a sample, as the program's numbers; numbers stored inside a block. -/
namespace Go.Proofs.Ytanmddenleffaaa
open Go.RowKit
/-- Seconds. -/
def secV (us : Int) : Int := mdivV us 1073741824 1000000
def secH (us : Int) : Bool := mdivH us 1073741824 1000000
/-- The turned angles, the velocities gained: what was measured less the bias. -/
def spA (K I : Nat → Int) (a o : Nat) (dt : Int) : Nat → Int := fun i => subV (I (o + i)) (mulV (partF K a i) dt 30)
def spAH (K I : Nat → Int) (a o : Nat) (dt : Int) : Bool := orB (fun i => mulH (partF K a i) dt 30) 3 || orB (fun i => subH (I (o + i)) (mulV (partF K a i) dt 30)) 3
def spF (K I : Nat → Int) : Nat → Int := putF (putF (putF (putF (fun i => if i = 0 then secV (I 1) else 0) 1 3 (spA K I 10 2 (secV (I 1)))) 4 3 (spA K I 13 5 (secV (I 1)))) 7 4 (exV (spA K I 10 2 (secV (I 1))))) 11 9 (roV K)
def spH (K I : Nat → Int) : Bool := secH (I 1) || spAH K I 10 2 (secV (I 1)) || spAH K I 13 5 (secV (I 1)) || exH (spA K I 10 2 (secV (I 1))) || roH K
end Go.Proofs.Ytanmddenleffaaa
/- The numbers of jac.Of. No program beyond the numbers' names. -/
namespace Go.Proofs.Ytanmddenleffaaa
/-- The attitude's matrix of a turn d; the bias' of an attitude q. -/
def joT (d : Nat → Int) : Nat → Int := fun x => if x = 0 then d 0 else if x = 1 then -(d 1) else if x = 2 then -(d 2) else if x = 3 then -(d 3) else if x = 4 then d 1 else if x = 5 then d 0 else if x = 6 then d 3 else if x = 7 then -(d 2) else if x = 8 then d 2 else if x = 9 then -(d 3) else if x = 10 then d 0 else if x = 11 then d 1 else if x = 12 then d 3 else if x = 13 then d 2 else if x = 14 then -(d 1) else d 0
def joB (q : Nat → Int) : Nat → Int := fun x => if x = 0 then -(q 1) else if x = 1 then -(q 2) else if x = 2 then -(q 3) else if x = 3 then q 0 else if x = 4 then -(q 3) else if x = 5 then q 2 else if x = 6 then q 3 else if x = 7 then q 0 else if x = 8 then -(q 1) else if x = 9 then -(q 2) else if x = 10 then q 1 else q 0
/-- The matrix of a step's parts P (20 numbers) and an attitude q. -/
def joM (P q : Nat → Int) : Nat → Int := fun x =>
  if x / 24 < 4 then (if x % 24 < 4 then joT (fun i => P (7 + i)) (x / 24 * 4 + x % 24) else if 10 ≤ x % 24 ∧ x % 24 < 13 then -(mulV (mulV (P 0) 536870912 30) (joB q (x / 24 * 3 + (x % 24 - 10))) 30) else oneF x)
  else if x / 24 < 7 then (if x % 24 < 4 then tuF q (fun i => P (4 + i)) ((x / 24 - 4) * 4 + x % 24) else if 13 ≤ x % 24 ∧ x % 24 < 16 then -(mulV (P (11 + ((x / 24 - 4) * 3 + (x % 24 - 13)))) (P 0) 30) else oneF x)
  else if x / 24 < 10 ∧ x % 24 = x / 24 - 3 then P 0 else oneF x
def joB1 (P q : Nat → Int) (r : Nat) : Nat → Bool := fun k => mulH (mulV (P 0) 536870912 30) (joB q (r * 3 + k)) 30
def joB2 (P : Nat → Int) (r : Nat) : Nat → Bool := fun k => mulH (P (11 + (r * 3 + k))) (P 0) 30
def joH (P q : Nat → Int) : Bool := mulH (P 0) 536870912 30 || orB (fun r => orB (joB1 P q r) 3) 4 || tuH q (fun i => P (4 + i)) || orB (fun r => orB (joB2 P r) 3) 3
def jofF (S I : Nat → Int) : Nat → Int := joM (spF (keepF S) I) (keepF S)
def jofH (S I : Nat → Int) : Bool := keepH S || spH (keepF S) I || keepH S || joH (spF (keepF S) I) (keepF S)
/-- The first four rows: r are done, and of row r the copy and m of the bias' numbers (m = 0: neither). -/
def joR1 (hh : Int) (d q : Nat → Int) : Nat → Int := fun x => if x % 24 < 4 then joT d (x / 24 * 4 + x % 24) else if 10 ≤ x % 24 ∧ x % 24 < 13 then -(mulV hh (joB q (x / 24 * 3 + (x % 24 - 10))) 30) else oneF x
def joK1 (hh : Int) (d q : Nat → Int) (r m : Nat) : Nat → Int := fun x => if x / 24 < r then joR1 hh d q x else if x / 24 = r ∧ 0 < m ∧ (x % 24 < 4 ∨ (10 ≤ x % 24 ∧ x % 24 < 9 + m)) then joR1 hh d q x else oneF x
theorem joK1_copy (hh : Int) (d q : Nat → Int) {r : Nat} (hr : r < 4) : ∀ x, putF (joK1 hh d q r 0) (r * 24) 4 (fun i => joT d (r * 4 + i)) x = joK1 hh d q r 1 x := fun x => by
  unfold putF joK1
  by_cases h : r * 24 ≤ x ∧ x < r * 24 + 4
  · rw [if_pos h, if_neg (by omega), if_pos (by omega)]
    unfold joR1
    rw [if_pos (by omega)]
    show joT d (r * 4 + (x - r * 24)) = joT d (x / 24 * 4 + x % 24)
    congr 1; omega
  · rw [if_neg h]
    by_cases h2 : x / 24 < r
    · rw [if_pos h2, if_pos h2]
    · rw [if_neg h2, if_neg h2, if_neg (by omega), if_neg (by omega)]
theorem joK1_next (hh : Int) (d q : Nat → Int) {r k : Nat} (hr : r < 4) (hk : k < 3) : ∀ x, upd (joK1 hh d q r (1 + k)) (r * 24 + (10 + k)) (-(mulV hh (joB q (r * 3 + k)) 30)) x = joK1 hh d q r (1 + (k + 1)) x := fun x => by
  unfold upd joK1
  by_cases h : x = r * 24 + (10 + k)
  · rw [if_pos h, if_neg (by omega), if_pos (by omega)]
    unfold joR1
    rw [if_neg (by omega), if_pos (by omega), show x / 24 * 3 + (x % 24 - 10) = r * 3 + k by omega]
  · rw [if_neg h]
    by_cases h2 : x / 24 < r
    · rw [if_pos h2, if_pos h2]
    · rw [if_neg h2, if_neg h2]
      by_cases h3 : x / 24 = r ∧ 0 < 1 + k ∧ (x % 24 < 4 ∨ (10 ≤ x % 24 ∧ x % 24 < 9 + (1 + k)))
      · rw [if_pos h3, if_pos (by omega)]
      · rw [if_neg h3, if_neg (by omega)]
theorem joK1_row (hh : Int) (d q : Nat → Int) (r : Nat) : ∀ x, joK1 hh d q r 4 x = joK1 hh d q (r + 1) 0 x := fun x => by
  unfold joK1
  by_cases h : x / 24 < r
  · rw [if_pos h, if_pos (by omega)]
  · rw [if_neg h]
    by_cases h2 : x / 24 = r
    · rw [if_pos (show x / 24 < r + 1 by omega)]
      by_cases h3 : x / 24 = r ∧ 0 < 4 ∧ (x % 24 < 4 ∨ (10 ≤ x % 24 ∧ x % 24 < 9 + 4))
      · rw [if_pos h3]
      · rw [if_neg h3]
        unfold joR1
        rw [if_neg (by omega), if_neg (by omega)]
    · rw [if_neg (by omega), if_neg (by omega), if_neg (by omega)]
/-- The next rows: of the velocity (4 to 6) by the attitude and the bias, of the place (7 to 9) by the velocity. -/
def joR2 (tu R : Nat → Int) (dt : Int) : Nat → Int := fun x => if x % 24 < 4 then tu ((x / 24 - 4) * 4 + x % 24) else if 13 ≤ x % 24 ∧ x % 24 < 16 then -(mulV (R ((x / 24 - 4) * 3 + (x % 24 - 13))) dt 30) else oneF x
def joK2 (B tu R : Nat → Int) (dt : Int) (r m : Nat) : Nat → Int := fun x => if 4 ≤ x / 24 ∧ x / 24 < 4 + r then joR2 tu R dt x else if x / 24 = 4 + r ∧ 0 < m ∧ (x % 24 < 4 ∨ (13 ≤ x % 24 ∧ x % 24 < 12 + m)) then joR2 tu R dt x else if 7 ≤ x / 24 ∧ x / 24 < 7 + r ∧ x % 24 = x / 24 - 3 then dt else B x
theorem joK2_copy (B tu R : Nat → Int) (dt : Int) {r : Nat} (hr : r < 3) : ∀ x, putF (joK2 B tu R dt r 0) ((4 + r) * 24) 4 (fun i => tu (r * 4 + i)) x = joK2 B tu R dt r 1 x := fun x => by
  unfold putF joK2
  by_cases h : (4 + r) * 24 ≤ x ∧ x < (4 + r) * 24 + 4
  · rw [if_pos h, if_neg (by omega), if_pos (by omega)]
    unfold joR2
    rw [if_pos (by omega)]
    show tu (r * 4 + (x - (4 + r) * 24)) = tu ((x / 24 - 4) * 4 + x % 24)
    congr 1; omega
  · rw [if_neg h]
    by_cases h2 : 4 ≤ x / 24 ∧ x / 24 < 4 + r
    · rw [if_pos h2, if_pos h2]
    · rw [if_neg h2, if_neg h2, if_neg (by omega)]
      by_cases h3 : 7 ≤ x / 24 ∧ x / 24 < 7 + r ∧ x % 24 = x / 24 - 3
      · rw [if_pos h3, if_neg (by omega)]
      · rw [if_neg h3, if_neg (by omega)]
theorem joK2_next (B tu R : Nat → Int) (dt : Int) {r k : Nat} (hr : r < 3) (hk : k < 3) : ∀ x, upd (joK2 B tu R dt r (1 + k)) ((4 + r) * 24 + (13 + k)) (-(mulV (R (r * 3 + k)) dt 30)) x = joK2 B tu R dt r (1 + (k + 1)) x := fun x => by
  unfold upd joK2
  by_cases h : x = (4 + r) * 24 + (13 + k)
  · rw [if_pos h, if_neg (by omega), if_pos (by omega)]
    unfold joR2
    rw [if_neg (by omega), if_pos (by omega), show (x / 24 - 4) * 3 + (x % 24 - 13) = r * 3 + k by omega]
  · rw [if_neg h]
    by_cases h2 : 4 ≤ x / 24 ∧ x / 24 < 4 + r
    · rw [if_pos h2, if_pos h2]
    · rw [if_neg h2, if_neg h2]
      by_cases h3 : x / 24 = 4 + r ∧ 0 < 1 + k ∧ (x % 24 < 4 ∨ (13 ≤ x % 24 ∧ x % 24 < 12 + (1 + k)))
      · rw [if_pos h3, if_pos (by omega)]
      · rw [if_neg h3, if_neg (show ¬ (x / 24 = 4 + r ∧ 0 < 1 + (k + 1) ∧ (x % 24 < 4 ∨ (13 ≤ x % 24 ∧ x % 24 < 12 + (1 + (k + 1))))) by omega)]
theorem joK2_row (B tu R : Nat → Int) (dt : Int) {r : Nat} (hr : r < 3) (hB : ∀ x, 4 ≤ x / 24 → B x = oneF x) : ∀ x, upd (joK2 B tu R dt r 4) ((7 + r) * 24 + (4 + r)) dt x = joK2 B tu R dt (r + 1) 0 x := fun x => by
  unfold upd joK2
  by_cases h : x = (7 + r) * 24 + (4 + r)
  · rw [if_pos h, if_neg (by omega), if_neg (by omega), if_pos (by omega)]
  · rw [if_neg h]
    by_cases h2 : 4 ≤ x / 24 ∧ x / 24 < 4 + r
    · rw [if_pos h2, if_pos (show 4 ≤ x / 24 ∧ x / 24 < 4 + (r + 1) by omega)]
    · rw [if_neg h2]
      by_cases h4 : x / 24 = 4 + r
      · rw [if_pos (show 4 ≤ x / 24 ∧ x / 24 < 4 + (r + 1) by omega)]
        by_cases h3 : x / 24 = 4 + r ∧ 0 < 4 ∧ (x % 24 < 4 ∨ (13 ≤ x % 24 ∧ x % 24 < 12 + 4))
        · rw [if_pos h3]
        · rw [if_neg h3, if_neg (show ¬ (7 ≤ x / 24 ∧ x / 24 < 7 + r ∧ x % 24 = x / 24 - 3) by omega), hB x (by omega)]
          unfold joR2
          rw [if_neg (by omega), if_neg (by omega)]
      · rw [if_neg (show ¬ (x / 24 = 4 + r ∧ 0 < 4 ∧ (x % 24 < 4 ∨ (13 ≤ x % 24 ∧ x % 24 < 12 + 4))) by omega), if_neg (show ¬ (4 ≤ x / 24 ∧ x / 24 < 4 + (r + 1)) by omega), if_neg (show ¬ (x / 24 = 4 + (r + 1) ∧ 0 < 0 ∧ (x % 24 < 4 ∨ (13 ≤ x % 24 ∧ x % 24 < 12 + 0))) by omega)]
        by_cases h5 : 7 ≤ x / 24 ∧ x / 24 < 7 + r ∧ x % 24 = x / 24 - 3
        · rw [if_pos h5, if_pos (by omega)]
        · rw [if_neg h5, if_neg (by omega)]
theorem joK1_high (hh : Int) (d q : Nat → Int) {x : Nat} (h : 4 ≤ x / 24) : joK1 hh d q 4 0 x = oneF x := by unfold joK1; rw [if_neg (by omega), if_neg (by omega)]
theorem joM_eq (P q : Nat → Int) (x : Nat) : joK2 (joK1 (mulV (P 0) 536870912 30) (fun i => P (7 + i)) q 4 0) (tuF q (fun i => P (4 + i))) (fun i => P (11 + i)) (P 0) 3 0 x = joM P q x := by
  unfold joM joK2
  by_cases h : x / 24 < 4
  · rw [if_pos h, if_neg (by omega), if_neg (by omega), if_neg (by omega)]
    unfold joK1 joR1
    rw [if_pos h]
  · rw [if_neg h]
    by_cases h2 : x / 24 < 7
    · rw [if_pos h2, if_pos (by omega)]
      unfold joR2
      rfl
    · rw [if_neg h2, if_neg (by omega), if_neg (by omega), joK1_high _ _ _ (by omega)]
      by_cases h3 : x / 24 < 10 ∧ x % 24 = x / 24 - 3
      · rw [if_pos h3, if_pos (by omega)]
      · rw [if_neg h3, if_neg (by omega)]
end Go.Proofs.Ytanmddenleffaaa
