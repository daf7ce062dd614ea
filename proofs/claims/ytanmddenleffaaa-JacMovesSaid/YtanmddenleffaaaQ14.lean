/- Contracts of the program's functions and plain laws, part 14: they hold for all arguments. -/
import Derived.Test.YtanmddenleffaaaQ13
import Derived.Test.YtanmddenleffaaaQ05
import Derived.Test.YtanmddenleffaaaQ08
import Derived.Test.YtanmddenleffaaaQ06
/- Contracts of package strap: Seconds, Split. -/
namespace Go.Proofs.Ytanmddenleffaaa
open Go.RowKit
set_option maxRecDepth 100000
theorem ia3 : (Try.prog.info? 31).map (·.size) = some 3 := by kernel_rfl
theorem iimu : (Try.prog.info? 33).map (·.size) = some 8 := by kernel_rfl
theorem iprt : (Try.prog.info? 64).map (·.size) = some 20 := by kernel_rfl
theorem zp20 : (#[.int .i64 0, .int .i64 0, .int .i64 0, .int .i64 0, .int .i64 0, .int .i64 0, .int .i64 0, .int .i64 0, .int .i64 0, .int .i64 0, .int .i64 0, .int .i64 0, .int .i64 0, .int .i64 0, .int .i64 0, .int .i64 0, .int .i64 0, .int .i64 0, .int .i64 0, .int .i64 0] : Array Value) = arrv 20 (fun _ => 0) := by kernel_rfl
theorem sec_any (c : Addr) (h : Bool) (us : Int) (w : World) (hc : w.cell? c = some (.bool h)) (hf : w.frozen? c = false) :
    Calls Try.prog 12 #[.pointer (some c), .int .i64 us] w fun e w' => e = .returned (.int .i64 (secV us)) ∧ Upd c (h || secH us) w w' := by
  have MC := Lib.hid (mdiv_any c h us 1073741824 1000000 w hc hf)
  clear hc hf
  go_enter Try.func12, Try.ntmps12
  go_wp2_with (go_at_call 29; (refine MC.out.mono ?_); rintro e w1 ⟨rfl, hu1⟩)
  go_ret
  exact ⟨rfl, hu1⟩
open Go in
theorem run_build_p1 {o : Oper} {ev : Operand → Value} {w : World} (x : Operand) (ho : o.op = .build 64 #[(0, x)]) {a : Int} (hx : ev x = .int .i64 a) :
    (execOp ev o).run Try.prog w = .ok (.value (.agg (arrv 20 (fun i => if i = 0 then a else 0)))) w := by
  unfold execOp
  simp only [ho, List.map_toArray, List.map_cons, List.map_nil, hx]
  kernel_rfl
/-- The blocks of strap.Split; P: the parts' block, where it has been laid. -/
structure SpR (c : Addr) (h : Bool) (S I : Nat → Int) (w wr : World) : Prop where
  upd : Upd c h w wr
  s : Blk wr w.heap.size 30 24 S
  i : Blk wr (w.heap.size + 1) 33 8 I
  r : Blk wr (w.heap.size + 1 + 1) 64 20 (fun _ => 0)
  cell : wr.cell? c = some (.bool h)
  free : wr.frozen? c = false
  cb : c.block < w.heap.size
theorem SpR.upd' {c : Addr} {h h' : Bool} {S I : Nat → Int} {w wr w' : World} (s : SpR c h S I w wr) (u : Upd c h' wr w') : SpR c h' S I w w' := by
  have hcb := s.cb
  exact ⟨s.upd.trans u, s.s.upd u (by omega), s.i.upd u (by omega), s.r.upd u (by omega), u.cellc s.cell, (u.frozen (World.block_lt_of_cell? _ _ s.cell)).trans s.free, s.cb⟩
theorem SpR.down {c : Addr} {h : Bool} {S I : Nat → Int} {w wr w' : World} (s : SpR c h S I w wr) (u : Below wr.heap.size wr w') : SpR c h S I w w' :=
  ⟨s.upd.then u, s.s.below u, s.i.below u, s.r.below u, (u.cell (World.block_lt_of_cell? _ _ s.cell)).trans s.cell, (u.frozen (World.block_lt_of_cell? _ _ s.cell)).trans s.free, s.cb⟩
theorem SpR.row {c : Addr} {h : Bool} {S I : Nat → Int} {w wr : World} (s : SpR c h S I w wr) {b : Nat} (hb : w.heap.size + 1 + 1 < b) (cs : Array Value) : SpR c h S I w (wr.setRow b cs) := by
  have hcb := s.cb
  exact ⟨s.upd.then' (below_row (Below.refl _ _) (by omega) _), s.s.setRow_other _ (by omega), s.i.setRow_other _ (by omega), s.r.setRow_other _ (by omega), by rw [(cell_row_other _ (by omega)).1]; exact s.cell, by rw [(cell_row_other _ (by omega)).2]; exact s.free, s.cb⟩
theorem SpR.rowS {c : Addr} {h : Bool} {S I : Nat → Int} {w wr : World} (s : SpR c h S I w wr) (F : Nat → Int) : SpR c h F I w (wr.setRow w.heap.size (arrv 24 F)) := by
  have hcb := s.cb
  exact ⟨s.upd.then' (below_row (Below.refl _ _) (by omega) _), s.s.setRow F, s.i.setRow_other _ (by omega), s.r.setRow_other _ (by omega), by rw [(cell_row_other _ (by omega)).1]; exact s.cell, by rw [(cell_row_other _ (by omega)).2]; exact s.free, s.cb⟩
theorem sp_start (c : Addr) (h : Bool) (S I : Nat → Int) (w : World) (hc : w.cell? c = some (.bool h)) (hf : w.frozen? c = false) :
    SpR c h S I w (((w.alloc (.cells (arrv 24 S) 30)).alloc (.cells (arrv 8 I) 33)).alloc (.cells #[.int .i64 0, .int .i64 0, .int .i64 0, .int .i64 0, .int .i64 0, .int .i64 0, .int .i64 0, .int .i64 0, .int .i64 0, .int .i64 0, .int .i64 0, .int .i64 0, .int .i64 0, .int .i64 0, .int .i64 0, .int .i64 0, .int .i64 0, .int .i64 0, .int .i64 0, .int .i64 0] 64)) := by
  have hcb := World.block_lt_of_cell? w c hc
  have bl : Below w.heap.size w (((w.alloc (.cells (arrv 24 S) 30)).alloc (.cells (arrv 8 I) 33)).alloc (.cells #[.int .i64 0, .int .i64 0, .int .i64 0, .int .i64 0, .int .i64 0, .int .i64 0, .int .i64 0, .int .i64 0, .int .i64 0, .int .i64 0, .int .i64 0, .int .i64 0, .int .i64 0, .int .i64 0, .int .i64 0, .int .i64 0, .int .i64 0, .int .i64 0, .int .i64 0, .int .i64 0] 64)) := by (repeat (first | with_reducible exact Below.refl _ _ | with_reducible apply Below.drew | (with_reducible refine below_drewN ?_ _) | (with_reducible refine Below.alloc ?_ (by (try simp) <;> omega) _) | (with_reducible refine Below.setCell ?_ (by (try simp) <;> omega) _)))
  refine ⟨Upd.then (Upd.refl hc) bl, ?_, ?_, ?_, (bl.cell hcb).trans hc, (bl.frozen hcb).trans hf, hcb⟩
  · exact ((Blk.new w _ 24 S).alloc _).alloc _
  · exact (Blk.new1 w _ _ 8 I).alloc _
  · rw [zp20]; exact blk_new2 w _ _ _ 20 _
/-- With the parts' own block. -/
structure SqR (c : Addr) (h : Bool) (S I P : Nat → Int) (b : Nat) (w wr : World) : Prop where
  a : SpR c h S I w wr
  p : Blk wr b 64 20 P
  lt : w.heap.size + 1 + 1 < b
theorem SqR.upd' {c : Addr} {h h' : Bool} {S I P : Nat → Int} {b : Nat} {w wr w' : World} (s : SqR c h S I P b w wr) (u : Upd c h' wr w') : SqR c h' S I P b w w' := by
  have hcb := s.a.cb
  have := s.lt
  exact ⟨s.a.upd' u, s.p.upd u (by omega), s.lt⟩
theorem SqR.down {c : Addr} {h : Bool} {S I P : Nat → Int} {b : Nat} {w wr w' : World} (s : SqR c h S I P b w wr) (u : Below wr.heap.size wr w') : SqR c h S I P b w w' := ⟨s.a.down u, s.p.below u, s.lt⟩
theorem SqR.drew {c : Addr} {h : Bool} {S I P : Nat → Int} {b : Nat} {w wr : World} (s : SqR c h S I P b w wr) : SqR c h S I P b w wr.drew := s.down (Below.drew (Below.refl _ _))
theorem SqR.rowP {c : Addr} {h : Bool} {S I P : Nat → Int} {b : Nat} {w wr : World} (s : SqR c h S I P b w wr) (F : Nat → Int) : SqR c h S I F b w (wr.setRow b (arrv 20 F)) := ⟨s.a.row s.lt _, s.p.setRow F, s.lt⟩
theorem sq_new {c : Addr} {h : Bool} {S I : Nat → Int} {w wr : World} (s : SpR c h S I w wr) (F : Nat → Int) :
    Blk (wr.alloc (.cells #[.int .i64 0, .int .i64 0, .int .i64 0, .int .i64 0, .int .i64 0, .int .i64 0, .int .i64 0, .int .i64 0, .int .i64 0, .int .i64 0, .int .i64 0, .int .i64 0, .int .i64 0, .int .i64 0, .int .i64 0, .int .i64 0, .int .i64 0, .int .i64 0, .int .i64 0, .int .i64 0] 64)) wr.heap.size 64 20 (fun _ => 0) ∧ SqR c h S I F wr.heap.size w ((wr.alloc (.cells #[.int .i64 0, .int .i64 0, .int .i64 0, .int .i64 0, .int .i64 0, .int .i64 0, .int .i64 0, .int .i64 0, .int .i64 0, .int .i64 0, .int .i64 0, .int .i64 0, .int .i64 0, .int .i64 0, .int .i64 0, .int .i64 0, .int .i64 0, .int .i64 0, .int .i64 0, .int .i64 0] 64)).setRow wr.heap.size (arrv 20 F)) := by
  have b0 : Blk (wr.alloc (.cells #[.int .i64 0, .int .i64 0, .int .i64 0, .int .i64 0, .int .i64 0, .int .i64 0, .int .i64 0, .int .i64 0, .int .i64 0, .int .i64 0, .int .i64 0, .int .i64 0, .int .i64 0, .int .i64 0, .int .i64 0, .int .i64 0, .int .i64 0, .int .i64 0, .int .i64 0, .int .i64 0] 64)) wr.heap.size 64 20 (fun _ => 0) := by rw [zp20]; exact Blk.new _ _ _ _
  have lt : w.heap.size + 1 + 1 < wr.heap.size := s.r.lt
  exact ⟨b0, (s.down ((Below.refl _ _).alloc (Nat.le_refl _) _)).row lt _, b0.setRow F, lt⟩
set_option maxHeartbeats 16000000 in
theorem split_any (c : Addr) (h : Bool) (S I : Nat → Int) (w : World) (hc : w.cell? c = some (.bool h)) (hf : w.frozen? c = false) :
    Calls Try.prog 25 #[.pointer (some c), .agg (arrv 24 S), .agg (arrv 8 I)] w fun e w' => e = .returned (.agg (arrv 20 (spF (keepF S) I))) ∧ Upd c (h || keepH S || spH (keepF S) I) w w' := by
  have S0 := Lib.hid (sp_start c h S I w hc hf)
  have KC := fun (x : World) (k : x.cell? c = some (.bool h)) (f : x.frozen? c = false) => keep_any c h S x k f
  obtain ⟨KS, hK⟩ : ∃ x, keepF S = x := ⟨_, rfl⟩
  obtain ⟨H1, hH1⟩ : ∃ x, (h || keepH S) = x := ⟨_, rfl⟩
  rw [hK, hH1] at KC
  rw [hK, hH1]
  have KC := Lib.hid KC
  obtain ⟨u1, hu1⟩ : ∃ x, I 1 = x := ⟨_, rfl⟩
  have TC := fun (x : World) (k : x.cell? c = some (.bool H1)) (f : x.frozen? c = false) => sec_any c H1 u1 x k f
  obtain ⟨dt, hdt⟩ : ∃ x, secV u1 = x := ⟨_, rfl⟩
  obtain ⟨H2, hH2⟩ : ∃ x, (H1 || secH u1) = x := ⟨_, rfl⟩
  rw [hdt, hH2] at TC
  have TC := Lib.hid TC
  have HF := Lib.hid (show spF KS I = putF (putF (putF (putF (fun i => if i = 0 then dt else 0) 1 3 (spA KS I 10 2 dt)) 4 3 (spA KS I 13 5 dt)) 7 4 (exV (spA KS I 10 2 dt))) 11 9 (roV KS) ∧ (H1 || spH KS I) = (H2 || orB (fun i => mulH (partF KS 10 i) dt 30) 3 || orB (fun i => subH (I (2 + i)) (mulV (partF KS 10 i) dt 30)) 3 || orB (fun i => mulH (partF KS 13 i) dt 30) 3 || orB (fun i => subH (I (5 + i)) (mulV (partF KS 13 i) dt 30)) 3 || exH (spA KS I 10 2 dt) || roH KS) by
    unfold spF spH spAH; rw [hu1, hdt, ← hH2]; exact ⟨rfl, by simp [Bool.or_assoc]⟩)
  have HU := Lib.hid hu1
  clear hK hH1 hu1 hdt hH2 hc hf
  go_enter Try.func25, Try.ntmps25
  go_upto_region 1 with fail
  generalize ((w.alloc (.cells (arrv 24 S) 30)).alloc (.cells (arrv 8 I) 33)).alloc (.cells #[.int .i64 0, .int .i64 0, .int .i64 0, .int .i64 0, .int .i64 0, .int .i64 0, .int .i64 0, .int .i64 0, .int .i64 0, .int .i64 0, .int .i64 0, .int .i64 0, .int .i64 0, .int .i64 0, .int .i64 0, .int .i64 0, .int .i64 0, .int .i64 0, .int .i64 0, .int .i64 0] 64) = W0 at *
  have P0 := S0.out.s
  go_upto_region 2 with (first | (refine wpList_load_row rfl 30 _ rfl (w.heap.size) rfl 30 _ (0, 0) _ (P0) Try.underlying30 rfl (ist.trans (by rw [arrv_size])) ?_) | (go_at_call 27; (refine (KC.out _ S0.out.cell S0.out.free).mono ?_); rintro e w1 ⟨rfl, hu1⟩; have S1 := Lib.hid (S0.out.upd' hu1); have P1 := S1.out.s; clear hu1) | (refine wpList_store_row rfl 30 _ _ rfl (w.heap.size) _ rfl rfl 30 _ (P1) (ist.trans (by rw [arrv_size])) (by rw [arrv_size, arrv_size]) (oneCell_arrv _ _) ?_))
  have S2 := Lib.hid (S1.out.rowS KS)
  generalize w1.setRow w.heap.size (arrv 24 KS) = W2 at *
  clear P0 P1 S1 S0 KC
  have i1 := S2.out.i.cell (i := 1) (by decide)
  rw [HU.out] at i1
  refine wp_region_lit ?_
  refine wpList_val (v := ?_) rfl ?_ ?_
  rotate_left
  · (go_simp; (try (first | with_reducible rfl | (constructor <;> with_reducible rfl))))
  (try simp only [Act.put, nA, nB, nC])
  refine wpList_val (v := ?_) rfl ?_ ?_
  rotate_left
  · (go_simp; (try (first | with_reducible rfl | (constructor <;> with_reducible rfl))))
  (try simp only [Act.put, nA, nB, nC])
  refine wpList_val (v := ?_) rfl ?_ ?_
  rotate_left
  · (go_simp; (try (first | with_reducible rfl | (constructor <;> with_reducible rfl))))
  (try simp only [Act.put, nA, nB, nC])
  refine wpList_step (fun K hK => ?_)
  go_simp
  (refine (TC.out _ S2.out.cell S2.out.free).mono ?_); rintro e w3 ⟨rfl, hu3⟩; have S3 := Lib.hid (S2.out.upd' hu3); clear hu3 S2 i1; have NB := Lib.hid (sq_new S3.out (fun i => if i = 0 then dt else 0))
  (try dsimp only)
  (try simp only [Act.put, nA, nB, nC])
  refine hK _ _ ?_
  clear hK K
  refine wpList_val (v := ?_) rfl ?_ ?_
  rotate_left
  · (refine Eq.trans (run_build_p1 (.tmp 14) (by rfl) (by rfl)) ?_; with_reducible rfl)
  (try simp only [Act.put, nA, nB, nC])
  refine wpList_act (v := ?_) (w' := ?_) rfl ?_ ?_
  rotate_left 2
  · (go_simp; (try (first | with_reducible rfl | (constructor <;> with_reducible rfl))))
  (try simp only [Act.put, nA, nB, nC])
  refine wpList_done (w' := ?_) rfl ?_ ?_
  rotate_left
  · (refine Eq.trans (run_store_row 64 (.tmp 7) (.tmp 15) (by rfl) (w3.heap.size) (by rfl) (by rfl) NB.out.1 (iprt.trans rfl)) ?_; with_reducible rfl)
  (try simp only [Act.put, nA, nB, nC])
  refine wpList_nil ?_
  have S4 := Lib.hid NB.out.2
  generalize (w3.alloc (.cells #[.int .i64 0, .int .i64 0, .int .i64 0, .int .i64 0, .int .i64 0, .int .i64 0, .int .i64 0, .int .i64 0, .int .i64 0, .int .i64 0, .int .i64 0, .int .i64 0, .int .i64 0, .int .i64 0, .int .i64 0, .int .i64 0, .int .i64 0, .int .i64 0, .int .i64 0, .int .i64 0] 64)).setRow w3.heap.size (arrv 20 (fun i => if i = 0 then dt else 0)) = W4 at *
  obtain ⟨pb, hpb⟩ : ∃ x, w3.heap.size = x := ⟨_, rfl⟩
  rw [hpb] at S4 ⊢
  clear NB S3 TC hpb
  obtain ⟨P0, hP0⟩ : ∃ P : Nat → Int, (fun i => if i = 0 then dt else 0) = P := ⟨_, rfl⟩
  rw [hP0] at S4 HF
  have HP := Lib.hid (show P0 0 = dt by rw [← hP0]; rfl)
  clear hP0
  go_upto_region 3 with fail
  have HS := Lib.hid S4.out.drew
  clear S4
  refine wp_region_M (fun w' => Blk w' (w.heap.size + 1) 33 8 I ∧ Blk w' w.heap.size 30 24 KS ∧ w'.cell? ⟨pb, 0, none⟩ = some (.int .i64 dt)) 11 (by kernel_rfl) ?_ (fun hHeld => ?_)
  · exact ⟨HS.out.a.i, HS.out.a.s, by rw [← HP.out]; exact HS.out.p.cell (by decide)⟩
  refine wpAnyM_take 0 (v := ?_) rfl (by kernel_rfl) (fun _ _ _ h => h) (Or.inl ⟨by rfl, ?_⟩) (by assumption) ?_
  rotate_left
  · (intro wx hSw; (try dsimp only at hSw); go_simp; (try with_reducible rfl))
  (try simp only [Act.put, nA, nB, nC])
  refine wpAnyM_take 1 (v := ?_) rfl (by kernel_rfl) (fun _ _ _ h => h) (Or.inl ⟨by rfl, ?_⟩) (by assumption) ?_
  rotate_left
  · (intro wx hSw; (try dsimp only at hSw); go_simp; (try with_reducible rfl))
  (try simp only [Act.put, nA, nB, nC])
  refine wpAnyM_take 2 (v := ?_) rfl (by kernel_rfl) (fun _ _ _ h => h) (Or.inl ⟨by rfl, ?_⟩) (by assumption) ?_
  rotate_left
  · (intro wx hSw; refine Eq.trans (run_load_sub 31 (.tmp 17) (by rfl) (w.heap.size + 1) 2 3 (by rfl) hSw.1 (by decide) _ Try.underlying31 rfl ia3) ?_; with_reducible rfl)
  (try simp only [Act.put, nA, nB, nC])
  refine wpAnyM_take 3 (v := ?_) rfl (by kernel_rfl) (fun _ _ _ h => h) (Or.inl ⟨by rfl, ?_⟩) (by assumption) ?_
  rotate_left
  · (intro wx hSw; (try dsimp only at hSw); go_simp; (try with_reducible rfl))
  (try simp only [Act.put, nA, nB, nC])
  refine wpAnyM_take 4 (v := ?_) rfl (by kernel_rfl) (fun _ _ _ h => h) (Or.inl ⟨by rfl, ?_⟩) (by assumption) ?_
  rotate_left
  · (intro wx hSw; refine Eq.trans (run_load_row 30 (.tmp 4) (by rfl) (w.heap.size) (by rfl) _ _ _ _ (hSw.2.1) Try.underlying30 rfl (ist.trans (by rw [arrv_size]))) ?_; with_reducible rfl)
  (try simp only [Act.put, nA, nB, nC])
  refine wpAnyM_take 6 (v := ?_) rfl (by kernel_rfl) (fun _ _ _ h => h) (Or.inl ⟨by rfl, ?_⟩) (by assumption) ?_
  rotate_left
  · (intro wx hSw; (try dsimp only at hSw); go_simp; (try with_reducible rfl))
  (try simp only [Act.put, nA, nB, nC])
  refine wpAnyM_take 7 (v := ?_) rfl (by kernel_rfl) (fun _ _ _ h => h) (Or.inl ⟨by rfl, ?_⟩) (by assumption) ?_
  rotate_left
  · (intro wx hSw; have h0 := hSw.2.2; go_simp; (try with_reducible rfl))
  (try simp only [Act.put, nA, nB, nC])
  refine wpAnyM_oneS 5 rfl (by kernel_rfl) (fun K hK => ?_)
  go_simp
  (refine (part_any KS 10 _ (by decide) (by decide)).mono ?_); rintro e w5 ⟨rfl, hb⟩; have HT := Lib.hid (HS.out.down hb); clear HS hb; have HS := HT; clear HT
  (try dsimp only)
  (try simp only [Act.put, nA, nB, nC])
  clear hHeld
  refine hK.out _ _ ?_ (fun hHeld => ?_)
  · exact ⟨HS.out.a.i, HS.out.a.s, by rw [← HP.out]; exact HS.out.p.cell (by decide)⟩
  clear hK K
  (try simp only [Act.put, nA, nB, nC])
  refine wpAnyM_oneS 8 rfl (by kernel_rfl) (fun K hK => ?_)
  go_simp
  (refine (vscale_any c _ (partF KS 10) dt _ HS.out.a.cell HS.out.a.free).mono ?_); rintro e w6 ⟨rfl, hu⟩; have HT := Lib.hid (HS.out.upd' hu); clear HS hu; have HS := HT; clear HT
  (try dsimp only)
  (try simp only [Act.put, nA, nB, nC])
  clear hHeld
  refine hK.out _ _ ?_ (fun hHeld => ?_)
  · exact ⟨HS.out.a.i, HS.out.a.s, by rw [← HP.out]; exact HS.out.p.cell (by decide)⟩
  clear hK K
  (try simp only [Act.put, nA, nB, nC])
  refine wpAnyM_oneS 9 rfl (by kernel_rfl) (fun K hK => ?_)
  go_simp
  (refine (vsub_any c _ (fun i => I (2 + i)) (fun i => mulV (partF KS 10 i) dt 30) _ HS.out.a.cell HS.out.a.free).mono ?_); rintro e w7 ⟨rfl, hu⟩; have HT := Lib.hid (HS.out.upd' hu); clear HS hu; have HS := HT; clear HT
  (try dsimp only)
  (try simp only [Act.put, nA, nB, nC])
  clear hHeld
  refine hK.out _ _ ?_ (fun hHeld => ?_)
  · exact ⟨HS.out.a.i, HS.out.a.s, by rw [← HP.out]; exact HS.out.p.cell (by decide)⟩
  clear hK K
  (try simp only [Act.put, nA, nB, nC])
  refine wpAnyM_take 10 (v := ?_) rfl (by kernel_rfl) (fun _ _ _ h => h) (Or.inl ⟨by rfl, ?_⟩) (by assumption) ?_
  rotate_left
  · (intro wx hSw; (try dsimp only at hSw); go_simp; (try with_reducible rfl))
  (try simp only [Act.put, nA, nB, nC])
  refine wpAnyM_one 11 rfl (by kernel_rfl) (fun K hK => ?_)
  go_simp; rw [if_pos (arrv_size _ _), run_storeCells_sub _ 1 3 HS.out.p (by decide)]; go_simp
  refine hK.out _ _ (.inl (by kernel_rfl)) (fun _ => ?_)
  clear hK K
  (try simp only [Act.put, nA, nB, nC])
  refine wpAnyM_done (by kernel_rfl) ?_ _
  have HT := Lib.hid (HS.out.rowP (putF P0 1 3 (fun i => subV (I (2 + i)) (mulV (partF KS 10 i) dt 30))))
  generalize w7.setRow pb (arrv 20 (putF P0 1 3 (fun i => subV (I (2 + i)) (mulV (partF KS 10 i) dt 30)))) = W5 at *
  clear HS
  have HS := HT
  clear HT
  obtain ⟨AN3, hAN3⟩ : ∃ A : Nat → Int, spA KS I 10 2 dt = A := ⟨_, rfl⟩
  rw [show (fun i => subV (I (2 + i)) (mulV (partF KS 10 i) dt 30)) = AN3 from hAN3] at HS
  rw [hAN3] at HF
  obtain ⟨P1, hP2⟩ : ∃ P, putF P0 1 3 AN3 = P := ⟨_, rfl⟩
  rw [hP2] at HS HF
  have HP2 := Lib.hid (show P1 0 = dt by rw [← hP2]; exact HP.out)
  have HQ := Lib.hid (show ∀ i, i < 3 → P1 (1 + i) = AN3 i from fun i hi => by rw [← hP2]; unfold putF; rw [if_pos (by omega)]; congr 1; omega)
  clear HP hP2 hAN3
  have HP := HP2
  clear HP2
  go_upto_region 4 with fail
  have HT := Lib.hid HS.out.drew
  clear HS
  have HS := HT
  clear HT
  refine wp_region_M (fun w' => Blk w' (w.heap.size + 1) 33 8 I ∧ Blk w' w.heap.size 30 24 KS ∧ w'.cell? ⟨pb, 0, none⟩ = some (.int .i64 dt)) 11 (by kernel_rfl) ?_ (fun hHeld => ?_)
  · exact ⟨HS.out.a.i, HS.out.a.s, by rw [← HP.out]; exact HS.out.p.cell (by decide)⟩
  refine wpAnyM_take 0 (v := ?_) rfl (by kernel_rfl) (fun _ _ _ h => h) (Or.inl ⟨by rfl, ?_⟩) (by assumption) ?_
  rotate_left
  · (intro wx hSw; (try dsimp only at hSw); go_simp; (try with_reducible rfl))
  (try simp only [Act.put, nA, nB, nC])
  refine wpAnyM_take 1 (v := ?_) rfl (by kernel_rfl) (fun _ _ _ h => h) (Or.inl ⟨by rfl, ?_⟩) (by assumption) ?_
  rotate_left
  · (intro wx hSw; (try dsimp only at hSw); go_simp; (try with_reducible rfl))
  (try simp only [Act.put, nA, nB, nC])
  refine wpAnyM_take 2 (v := ?_) rfl (by kernel_rfl) (fun _ _ _ h => h) (Or.inl ⟨by rfl, ?_⟩) (by assumption) ?_
  rotate_left
  · (intro wx hSw; refine Eq.trans (run_load_sub 31 (.tmp 28) (by rfl) (w.heap.size + 1) 5 3 (by rfl) hSw.1 (by decide) _ Try.underlying31 rfl ia3) ?_; with_reducible rfl)
  (try simp only [Act.put, nA, nB, nC])
  refine wpAnyM_take 3 (v := ?_) rfl (by kernel_rfl) (fun _ _ _ h => h) (Or.inl ⟨by rfl, ?_⟩) (by assumption) ?_
  rotate_left
  · (intro wx hSw; (try dsimp only at hSw); go_simp; (try with_reducible rfl))
  (try simp only [Act.put, nA, nB, nC])
  refine wpAnyM_take 4 (v := ?_) rfl (by kernel_rfl) (fun _ _ _ h => h) (Or.inl ⟨by rfl, ?_⟩) (by assumption) ?_
  rotate_left
  · (intro wx hSw; refine Eq.trans (run_load_row 30 (.tmp 4) (by rfl) (w.heap.size) (by rfl) _ _ _ _ (hSw.2.1) Try.underlying30 rfl (ist.trans (by rw [arrv_size]))) ?_; with_reducible rfl)
  (try simp only [Act.put, nA, nB, nC])
  refine wpAnyM_take 6 (v := ?_) rfl (by kernel_rfl) (fun _ _ _ h => h) (Or.inl ⟨by rfl, ?_⟩) (by assumption) ?_
  rotate_left
  · (intro wx hSw; (try dsimp only at hSw); go_simp; (try with_reducible rfl))
  (try simp only [Act.put, nA, nB, nC])
  refine wpAnyM_take 7 (v := ?_) rfl (by kernel_rfl) (fun _ _ _ h => h) (Or.inl ⟨by rfl, ?_⟩) (by assumption) ?_
  rotate_left
  · (intro wx hSw; have h0 := hSw.2.2; go_simp; (try with_reducible rfl))
  (try simp only [Act.put, nA, nB, nC])
  refine wpAnyM_oneS 5 rfl (by kernel_rfl) (fun K hK => ?_)
  go_simp
  (refine (part_any KS 13 _ (by decide) (by decide)).mono ?_); rintro e w5 ⟨rfl, hb⟩; have HT := Lib.hid (HS.out.down hb); clear HS hb; have HS := HT; clear HT
  (try dsimp only)
  (try simp only [Act.put, nA, nB, nC])
  clear hHeld
  refine hK.out _ _ ?_ (fun hHeld => ?_)
  · exact ⟨HS.out.a.i, HS.out.a.s, by rw [← HP.out]; exact HS.out.p.cell (by decide)⟩
  clear hK K
  (try simp only [Act.put, nA, nB, nC])
  refine wpAnyM_oneS 8 rfl (by kernel_rfl) (fun K hK => ?_)
  go_simp
  (refine (vscale_any c _ (partF KS 13) dt _ HS.out.a.cell HS.out.a.free).mono ?_); rintro e w6 ⟨rfl, hu⟩; have HT := Lib.hid (HS.out.upd' hu); clear HS hu; have HS := HT; clear HT
  (try dsimp only)
  (try simp only [Act.put, nA, nB, nC])
  clear hHeld
  refine hK.out _ _ ?_ (fun hHeld => ?_)
  · exact ⟨HS.out.a.i, HS.out.a.s, by rw [← HP.out]; exact HS.out.p.cell (by decide)⟩
  clear hK K
  (try simp only [Act.put, nA, nB, nC])
  refine wpAnyM_oneS 9 rfl (by kernel_rfl) (fun K hK => ?_)
  go_simp
  (refine (vsub_any c _ (fun i => I (5 + i)) (fun i => mulV (partF KS 13 i) dt 30) _ HS.out.a.cell HS.out.a.free).mono ?_); rintro e w7 ⟨rfl, hu⟩; have HT := Lib.hid (HS.out.upd' hu); clear HS hu; have HS := HT; clear HT
  (try dsimp only)
  (try simp only [Act.put, nA, nB, nC])
  clear hHeld
  refine hK.out _ _ ?_ (fun hHeld => ?_)
  · exact ⟨HS.out.a.i, HS.out.a.s, by rw [← HP.out]; exact HS.out.p.cell (by decide)⟩
  clear hK K
  (try simp only [Act.put, nA, nB, nC])
  refine wpAnyM_take 10 (v := ?_) rfl (by kernel_rfl) (fun _ _ _ h => h) (Or.inl ⟨by rfl, ?_⟩) (by assumption) ?_
  rotate_left
  · (intro wx hSw; (try dsimp only at hSw); go_simp; (try with_reducible rfl))
  (try simp only [Act.put, nA, nB, nC])
  refine wpAnyM_one 11 rfl (by kernel_rfl) (fun K hK => ?_)
  go_simp; rw [if_pos (arrv_size _ _), run_storeCells_sub _ 4 3 HS.out.p (by decide)]; go_simp
  refine hK.out _ _ (.inl (by kernel_rfl)) (fun _ => ?_)
  clear hK K
  (try simp only [Act.put, nA, nB, nC])
  refine wpAnyM_done (by kernel_rfl) ?_ _
  have HT := Lib.hid (HS.out.rowP (putF P1 4 3 (fun i => subV (I (5 + i)) (mulV (partF KS 13 i) dt 30))))
  generalize w7.setRow pb (arrv 20 (putF P1 4 3 (fun i => subV (I (5 + i)) (mulV (partF KS 13 i) dt 30)))) = W6 at *
  clear HS
  have HS := HT
  clear HT
  obtain ⟨AN4, hAN4⟩ : ∃ A : Nat → Int, spA KS I 13 5 dt = A := ⟨_, rfl⟩
  rw [show (fun i => subV (I (5 + i)) (mulV (partF KS 13 i) dt 30)) = AN4 from hAN4] at HS
  rw [hAN4] at HF
  obtain ⟨P2, hP2⟩ : ∃ P, putF P1 4 3 AN4 = P := ⟨_, rfl⟩
  rw [hP2] at HS HF
  have HP2 := Lib.hid (show P2 0 = dt by rw [← hP2]; exact HP.out)
  have HQ2 := Lib.hid (show ∀ i, i < 3 → P2 (1 + i) = AN3 i from fun i hi => by rw [← hP2]; unfold putF; rw [if_neg (by omega)]; exact HQ.out i hi)
  clear HP hP2 hAN4 HP2 HQ
  have PB5 := HS.out.p
  go_upto_region 5 with fail
  refine wp_region_lit ?_
  refine wpList_val (v := ?_) rfl ?_ ?_
  rotate_left
  · (go_simp; (try (first | with_reducible rfl | (constructor <;> with_reducible rfl))))
  (try simp only [Act.put, nA, nB, nC])
  refine wpList_val (v := ?_) rfl ?_ ?_
  rotate_left
  · (go_simp; (try (first | with_reducible rfl | (constructor <;> with_reducible rfl))))
  (try simp only [Act.put, nA, nB, nC])
  refine wpList_val (v := ?_) rfl ?_ ?_
  rotate_left
  · (refine Eq.trans (run_load_sub 41 (.tmp 39) (by rfl) pb 1 3 (by rfl) PB5 (by decide) _ Try.underlying41 rfl iv3) ?_; rw [show arrv 3 (fun i => P2 (1 + i)) = arrv 3 AN3 from arrv_congr fun i hi => HQ2.out i hi])
  (try simp only [Act.put, nA, nB, nC])
  refine wpList_step (fun K hK => ?_)
  go_simp
  (refine (exp_any c _ AN3 _ HS.out.a.cell HS.out.a.free).mono ?_); rintro e w8 ⟨rfl, hu⟩; have HT := Lib.hid (HS.out.upd' hu); clear HS hu PB5; have HS := HT; clear HT
  (try dsimp only)
  (try simp only [Act.put, nA, nB, nC])
  refine hK _ _ ?_
  clear hK K
  refine wpList_val (v := ?_) rfl ?_ ?_
  rotate_left
  · (go_simp; (try (first | with_reducible rfl | (constructor <;> with_reducible rfl))))
  (try simp only [Act.put, nA, nB, nC])
  refine wpList_done (w' := ?_) rfl ?_ ?_
  rotate_left
  · (refine Eq.trans (run_store_sub 40 (.tmp 42) (.tmp 41) (by rfl) pb 7 (by rfl) (by rfl) HS.out.p (by decide) iqt) ?_; with_reducible rfl)
  (try simp only [Act.put, nA, nB, nC])
  refine wpList_nil ?_
  have HT := Lib.hid (HS.out.rowP (putF P2 7 4 (exV AN3)))
  generalize w8.setRow pb (arrv 20 (putF P2 7 4 (exV AN3))) = W9 at *
  clear HS
  have HS := HT
  clear HT HQ2
  obtain ⟨P3, hP3⟩ : ∃ P, putF P2 7 4 (exV AN3) = P := ⟨_, rfl⟩
  rw [hP3] at HS HF
  clear hP3
  have S6 := HS.out.a.s
  go_upto_region 6 with fail
  refine wp_region_lit ?_
  refine wpList_val (v := ?_) rfl ?_ ?_
  rotate_left
  · (go_simp; (try (first | with_reducible rfl | (constructor <;> with_reducible rfl))))
  (try simp only [Act.put, nA, nB, nC])
  refine wpList_val (v := ?_) rfl ?_ ?_
  rotate_left
  · refine Eq.trans (run_load_row 30 (.tmp 4) (by rfl) (w.heap.size) (by rfl) _ _ _ _ (S6) Try.underlying30 rfl (ist.trans (by rw [arrv_size]))) ?_; with_reducible rfl
  (try simp only [Act.put, nA, nB, nC])
  refine wpList_step (fun K hK => ?_)
  go_simp
  (refine (att_any KS _).mono ?_); rintro e w10 ⟨rfl, hb⟩; have HT := Lib.hid (HS.out.down hb); clear HS hb S6; have HS := HT; clear HT
  (try dsimp only)
  (try simp only [Act.put, nA, nB, nC])
  refine hK _ _ ?_
  clear hK K
  refine wpList_step (fun K hK => ?_)
  go_simp
  (refine (rof_any c _ KS _ HS.out.a.cell HS.out.a.free).mono ?_); rintro e w11 ⟨rfl, hu⟩; have HT := Lib.hid (HS.out.upd' hu); clear HS hu; have HS := HT; clear HT
  (try dsimp only)
  (try simp only [Act.put, nA, nB, nC])
  refine hK _ _ ?_
  clear hK K
  refine wpList_val (v := ?_) rfl ?_ ?_
  rotate_left
  · (go_simp; (try (first | with_reducible rfl | (constructor <;> with_reducible rfl))))
  (try simp only [Act.put, nA, nB, nC])
  refine wpList_done (w' := ?_) rfl ?_ ?_
  rotate_left
  · (refine Eq.trans (run_store_sub 45 (.tmp 47) (.tmp 46) (by rfl) pb 11 (by rfl) (by rfl) HS.out.p (by decide) im9) ?_; with_reducible rfl)
  (try simp only [Act.put, nA, nB, nC])
  refine wpList_nil ?_
  have HT := Lib.hid (HS.out.rowP (putF P3 11 9 (roV KS)))
  generalize w11.setRow pb (arrv 20 (putF P3 11 9 (roV KS))) = W12 at *
  clear HS
  have HS := HT
  clear HT
  obtain ⟨P4, hP4⟩ : ∃ P, putF P3 11 9 (roV KS) = P := ⟨_, rfl⟩
  rw [hP4] at HS HF
  clear hP4
  have B0 := HS.out.p
  have B1 := HS.out.a.r
  go_upto_region 7 with fail
  refine wp_region_lit ?_
  refine wpList_val (v := ?_) rfl ?_ ?_
  rotate_left
  · (refine Eq.trans (run_load_row 64 (.tmp 7) (by rfl) pb (by rfl) _ _ _ _ B0 Try.underlying64 rfl (iprt.trans (by rw [arrv_size]))) ?_; with_reducible rfl)
  (try simp only [Act.put, nA, nB, nC])
  refine wpList_done (w' := ?_) rfl ?_ ?_
  rotate_left
  · (refine Eq.trans (run_store_row 64 (.tmp 6) (.tmp 48) (by rfl) (w.heap.size + 1 + 1) (by rfl) (by rfl) B1 (iprt.trans rfl)) ?_; with_reducible rfl)
  (try simp only [Act.put, nA, nB, nC])
  refine wpList_nil ?_
  have r1 := B1.setRow P4
  have U1 := HS.out.a.upd.then' (below_row (Below.refl _ _) (show w.heap.size ≤ w.heap.size + 1 + 1 by omega) (arrv 20 P4))
  rw [← HF.out.2] at U1
  generalize W12.setRow (w.heap.size + 1 + 1) (arrv 20 P4) = W13 at *
  go_wp2_with fail
  refine bodyPost_ret (results_cell_row Try.results25 _ _ (w.heap.size + 1 + 1) 64 (arrv 20 P4) (0, 0) _ rfl r1 Try.underlying64 rfl (iprt.trans (by rw [arrv_size]))) rfl ⟨by rw [HF.out.1], U1⟩
end Go.Proofs.Ytanmddenleffaaa
/- Contract of jac.Noise. -/
namespace Go.Proofs.Ytanmddenleffaaa
open Go.RowKit
set_option maxRecDepth 100000
def noF (q : Nat → Int) (us : Int) : Nat → Int := fun i => qV (mulV (q i) (secV us) 30)
def noB (q : Nat → Int) (us : Int) : Nat → Bool := fun i => mulH (q i) (secV us) 30 || qH (mulV (q i) (secV us) 30)
def noH (q : Nat → Int) (us : Int) : Bool := secH us || orB (noB q us) 24
def noK (q : Nat → Int) (us : Int) (k : Nat) : Nat → Int := fun i => if i < k then noF q us i else q i
structure NoR (c : Addr) (h : Bool) (Q : Nat → Int) (w wr : World) : Prop where
  upd : Upd c h w wr
  q : Blk wr w.heap.size 26 24 Q
  r : Blk wr (w.heap.size + 1) 26 24 (fun _ => 0)
theorem NoR.upd' {c : Addr} {h h' : Bool} {Q : Nat → Int} {w wr w' : World} (s : NoR c h Q w wr) (hc : c.block < w.heap.size) (u : Upd c h' wr w') : NoR c h' Q w w' := ⟨s.upd.trans u, s.q.upd u (by omega), s.r.upd u (by omega)⟩
set_option maxHeartbeats 4000000 in
theorem noise_any (c : Addr) (h : Bool) (Q : Nat → Int) (us : Int) (w : World) (hc : w.cell? c = some (.bool h)) (hf : w.frozen? c = false) :
    Calls Try.prog 11 #[.pointer (some c), .agg (arrv 24 Q), .int .i64 us] w fun e w' => e = .returned (.agg (arrv 24 (noF Q us))) ∧ Upd c (h || noH Q us) w w' := by
  have hcb := World.block_lt_of_cell? w c hc
  have S0 := Lib.hid (show NoR c h Q w ((w.alloc (.cells (arrv 24 Q) 26)).alloc (.cells #[.int .i64 0, .int .i64 0, .int .i64 0, .int .i64 0, .int .i64 0, .int .i64 0, .int .i64 0, .int .i64 0, .int .i64 0, .int .i64 0, .int .i64 0, .int .i64 0, .int .i64 0, .int .i64 0, .int .i64 0, .int .i64 0, .int .i64 0, .int .i64 0, .int .i64 0, .int .i64 0, .int .i64 0, .int .i64 0, .int .i64 0, .int .i64 0] 26)) from
    ⟨Upd.then (Upd.refl hc) (by (repeat (first | with_reducible exact Below.refl _ _ | with_reducible apply Below.drew | (with_reducible refine below_drewN ?_ _) | (with_reducible refine Below.alloc ?_ (by (try simp) <;> omega) _) | (with_reducible refine Below.setCell ?_ (by (try simp) <;> omega) _)))), (Blk.new w _ _ _).alloc _, by rw [zcol]; exact Blk.new1 w _ _ _ _⟩)
  have HC := Lib.hid hc
  have HF := Lib.hid hf
  clear hc hf
  have TC := fun (x : World) (k : x.cell? c = some (.bool h)) (f : x.frozen? c = false) => sec_any c h us x k f
  obtain ⟨dt, hdt⟩ : ∃ x, secV us = x := ⟨_, rfl⟩
  obtain ⟨H2, hH2⟩ : ∃ x, (h || secH us) = x := ⟨_, rfl⟩
  rw [hdt, hH2] at TC
  have TC := Lib.hid TC
  have HG := Lib.hid (show (h || noH Q us) = (H2 || orB (noB Q us) 24) by unfold noH; rw [← hH2]; simp [Bool.or_assoc])
  have HD := Lib.hid hdt
  clear hdt hH2
  go_enter Try.func11, Try.ntmps11
  go_upto_region 1 with fail
  generalize (w.alloc (.cells (arrv 24 Q) 26)).alloc (.cells #[.int .i64 0, .int .i64 0, .int .i64 0, .int .i64 0, .int .i64 0, .int .i64 0, .int .i64 0, .int .i64 0, .int .i64 0, .int .i64 0, .int .i64 0, .int .i64 0, .int .i64 0, .int .i64 0, .int .i64 0, .int .i64 0, .int .i64 0, .int .i64 0, .int .i64 0, .int .i64 0, .int .i64 0, .int .i64 0, .int .i64 0, .int .i64 0] 26) = W0 at *
  go_upto_region 2 with (go_at_call 12; (refine (TC.out _ (S0.out.upd.cellc HC.out) ((S0.out.upd.frozen hcb).trans HF.out)).mono ?_); rintro e w1 ⟨rfl, hu1⟩; have S1 := Lib.hid (S0.out.upd' hcb hu1); clear hu1 S0 TC)
  go_wp2_with fail
  go_loopw [12] (fun v wr => ∃ k : Nat, k ≤ 24 ∧ v = .int .i64 k ∧ Hid (NoR c (H2 || orB (noB Q us) k) (noK Q us k) w wr)) (fun v _ => 24 - (intOf v).toNat)
  case atStart =>
    refine ⟨0, by omega, rfl, ⟨?_, S1.out.q.congr fun i hi => by simp [noK], S1.out.r⟩⟩
    rw [show (H2 || orB (noB Q us) 0) = H2 from by simp [orB]]
    exact S1.out.upd
  case round =>
    obtain ⟨k, hk, rfl, R⟩ := hrel
    clear S1
    by_cases hlt : k < 24
    · have d1 : decide ((k : Int) < 24) = true := by simp; omega
      have k0 : (0 : Int) ≤ (k : Int) := Int.natCast_nonneg _
      have k1 : (k : Int) < 24 := by omega
      have qc := R.out.q.cell (i := k) (by omega)
      rw [show noK Q us k k = Q k by unfold noK; rw [if_neg (by omega)]] at qc
      obtain ⟨x, hx⟩ : ∃ x, Q k = x := ⟨_, rfl⟩
      obtain ⟨H, hH⟩ : ∃ x, (H2 || orB (noB Q us) k) = x := ⟨_, rfl⟩
      obtain ⟨y, hy⟩ : ∃ y, mulV x dt 30 = y := ⟨_, rfl⟩
      have HH := Lib.hid (show (H2 || orB (noB Q us) (k + 1)) = (H || mulH x dt 30 || qH y) by rw [← hH, ← hy, ← hx, ← HD.out]; simp [orB, noB, Bool.or_assoc])
      have HV := Lib.hid (show noF Q us k = qV y by unfold noF; rw [hx, HD.out, hy])
      have MC := Lib.hid (fun (z : World) (k1 : z.cell? c = some (.bool H)) (k2 : z.frozen? c = false) => fmul_any c H x dt 30 z k1 k2)
      rw [hy] at MC
      rw [hx] at qc
      rw [hH] at R
      clear hx hH hy
      go_upto_region 5 with fail
      refine wp_region_lit ?_
      refine wpList_val (v := ?_) rfl ?_ ?_
      rotate_left
      · (go_simp; (try (first | with_reducible rfl | (constructor <;> with_reducible rfl))))
      (try simp only [Act.put, nA, nB, nC])
      refine wpList_val (v := ?_) rfl ?_ ?_
      rotate_left
      · (go_simp; (try (first | with_reducible rfl | (constructor <;> with_reducible rfl))))
      (try simp only [Act.put, nA, nB, nC])
      refine wpList_val (v := ?_) rfl ?_ ?_
      rotate_left
      · (go_simp; (try (first | with_reducible rfl | (constructor <;> with_reducible rfl))))
      (try simp only [Act.put, nA, nB, nC])
      refine wpList_val (v := ?_) rfl ?_ ?_
      rotate_left
      · (go_simp; (try (first | with_reducible rfl | (constructor <;> with_reducible rfl))))
      (try simp only [Act.put, nA, nB, nC])
      refine wpList_val (v := ?_) rfl ?_ ?_
      rotate_left
      · (go_simp; (try (first | with_reducible rfl | (constructor <;> with_reducible rfl))))
      (try simp only [Act.put, nA, nB, nC])
      refine wpList_val (v := ?_) rfl ?_ ?_
      rotate_left
      · (go_simp; (try (first | with_reducible rfl | (constructor <;> with_reducible rfl))))
      (try simp only [Act.put, nA, nB, nC])
      refine wpList_val (v := ?_) rfl ?_ ?_
      rotate_left
      · (go_simp; (try (first | with_reducible rfl | (constructor <;> with_reducible rfl))))
      (try simp only [Act.put, nA, nB, nC])
      refine wpList_step (fun K hK => ?_)
      go_simp
      (refine (MC.out _ (R.out.upd.cellc HC.out) ((R.out.upd.frozen hcb).trans HF.out)).mono ?_); rintro e w1 ⟨rfl, hu⟩; have S := Lib.hid (R.out.upd' hcb hu); clear hu R qc MC
      (try dsimp only)
      (try simp only [Act.put, nA, nB, nC])
      refine hK _ _ ?_
      clear hK K
      refine wpList_step (fun K hK => ?_)
      go_simp
      (refine (clamp_any c (H || mulH x dt 30) y 0 72057594037927936 w1 (S.out.upd.cellc HC.out) ((S.out.upd.frozen hcb).trans HF.out)).mono ?_); rintro e w2 ⟨rfl, hw2⟩; have S2 := Lib.hid (S.out.upd' hcb (show Upd c (H || mulH x dt 30 || qH y) w1 w2 from by rw [← hw2]; exact Upd.set c _ _)); clear hw2 S; have af := S2.out.q.free k; have ac := S2.out.q.cell (i := k) (by omega)
      (try dsimp only)
      (try simp only [Act.put, nA, nB, nC])
      refine hK _ _ ?_
      clear hK K
      refine wpList_val (v := ?_) rfl ?_ ?_
      rotate_left
      · (go_simp; (try (first | with_reducible rfl | (constructor <;> with_reducible rfl))))
      (try simp only [Act.put, nA, nB, nC])
      refine wpList_done (w' := ?_) rfl ?_ ?_
      rotate_left
      · (go_simp; (try (first | with_reducible rfl | (constructor <;> with_reducible rfl))))
      (try simp only [Act.put, nA, nB, nC])
      refine wpList_nil ?_
      go_wp2_with fail
      go_roundw
      case rel =>
        refine ⟨k + 1, by omega, by go_num, ⟨?_, ?_, S2.out.r.other (by simp) _⟩⟩
        · rw [HH.out]; exact S2.out.upd.setCell (Nat.le_refl _) _
        · refine (S2.out.q.set k (qV y)).congr fun i _ => ?_
          simp only [Go.Proofs.Ytanmddenleffaaa.upd, noK]
          by_cases h1 : i = k
          · rw [if_pos h1, if_pos (by omega), h1, HV.out]
          · rw [if_neg h1]
            by_cases h2 : i < k
            · rw [if_pos h2, if_pos (by omega)]
            · rw [if_neg h2, if_neg (by omega)]
      case measure => simp [intOf]; omega
    · have hk24 : k = 24 := by omega
      subst hk24
      rw [show ((24 : Nat) : Int) = 24 from rfl]
      have R2 := Lib.hid (show NoR c (h || noH Q us) (noF Q us) w wr from by rw [HG.out]; exact ⟨R.out.upd, R.out.q.congr fun i hi => by unfold noK; rw [if_pos hi], R.out.r⟩)
      clear R hk hlt
      have Q2 := R2.out.q
      have P2 := R2.out.r
      obtain ⟨G, hG⟩ : ∃ x, noF Q us = x := ⟨_, rfl⟩
      obtain ⟨HZ, hHZ⟩ : ∃ x, (h || noH Q us) = x := ⟨_, rfl⟩
      rw [hG] at Q2 R2
      rw [hHZ] at R2
      have HGG := Lib.hid (And.intro hG hHZ)
      clear hG hHZ
      go_upto_region 7 with fail
      refine wp_region_lit ?_
      refine wpList_val (v := ?_) rfl ?_ ?_
      rotate_left
      · (refine Eq.trans (run_load_row 26 (.tmp 4) (by rfl) (w.heap.size) (by rfl) _ _ _ _ Q2 Try.underlying26 rfl (icol.trans (by rw [arrv_size]))) ?_; with_reducible rfl)
      (try simp only [Act.put, nA, nB, nC])
      refine wpList_done (w' := ?_) rfl ?_ ?_
      rotate_left
      · (refine Eq.trans (run_store_row 26 (.tmp 6) (.tmp 26) (by rfl) (w.heap.size + 1) (by rfl) (by rfl) P2 (icol.trans rfl)) ?_; with_reducible rfl)
      (try simp only [Act.put, nA, nB, nC])
      refine wpList_nil ?_
      have r1 := P2.setRow G
      have U1 := R2.out.upd.then' (below_row (Below.refl _ _) (show w.heap.size ≤ w.heap.size + 1 by omega) (arrv 24 G))
      generalize wr.setRow (w.heap.size + 1) (arrv 24 G) = W9 at *
      go_wp2_with fail
      refine bodyPost_ret (results_cell_row Try.results11 _ _ (w.heap.size + 1) 26 (arrv 24 G) (0, 0) _ rfl r1 Try.underlying26 rfl (icol.trans (by rw [arrv_size]))) rfl ⟨by rw [HGG.out.1], by rw [HGG.out.2]; exact U1⟩
end Go.Proofs.Ytanmddenleffaaa
/- Contract of tri.New: noughts above the diagonal, the variances given, and the least variance where none is given. -/
namespace Go.Proofs.Ytanmddenleffaaa
open Go.RowKit
set_option maxRecDepth 100000
def newF (n : Nat) (L : Nat → Int) : Nat → Int := fun i => if i < 276 then 0 else if i - 276 < n then varV (L (i - 276)) else 1
def newB (n : Nat) (L : Nat → Int) (i : Nat) : Bool := if i < n then varH (L i) else false
def newH (n : Nat) (L : Nat → Int) : Bool := orB (newB n L) 24
def newI (n : Nat) (L : Nat → Int) (k : Nat) : Nat → Int := fun i => if i < 276 then 0 else if i < 276 + k then (if i - 276 < n then varV (L (i - 276)) else 1) else 0
theorem new_any (c : Addr) (h : Bool) (p : Option Addr) (n cp : Nat) (L : Nat → Int) (w : World) (hc : w.cell? c = some (.bool h)) (hf : w.frozen? c = false) (hL : Slc w p n L) :
    Calls Try.prog 23 #[.pointer (some c), .slice p n cp] w fun e w' => e = .returned (.agg (arrv 300 (newF n L))) ∧ Upd c (h || newH n L) w w' := by
  have hcb := World.block_lt_of_cell? w c hc
  have HC := Lib.hid hc
  have HF := Lib.hid hf
  have HL := Lib.hid hL
  clear hc hf hL
  go_enter Try.func23, Try.ntmps23
  go_wp2_with fail
  go_loopw [7] (fun i wr => ∃ k : Nat, k ≤ 24 ∧ i = .int .i64 k ∧ Hid (Upd c (h || orB (newB n L) k) w wr ∧ Blk wr w.heap.size 59 300 (fun _ => 0) ∧ Blk wr (w.heap.size + 1) 59 300 (newI n L k))) (fun i _ => 24 - (intOf i).toNat)
  case atStart =>
    refine ⟨0, by omega, rfl, ?_, ?_, ?_⟩
    · rw [show (h || orB (newB n L) 0) = h from by simp [orB]]
      exact Upd.then (Upd.refl HC.out) (by (repeat (first | with_reducible exact Below.refl _ _ | with_reducible apply Below.drew | (with_reducible refine below_drewN ?_ _) | (with_reducible refine Below.alloc ?_ (by (try simp) <;> omega) _) | (with_reducible refine Below.setCell ?_ (by (try simp) <;> omega) _))))
    · rw [zcov]; exact (Blk.new w _ _ _).alloc _
    · rw [zcov]; exact (Blk.new1 w _ _ _ _).congr fun i hi => by simp only [newI]; split <;> first | rfl | (rw [if_neg (by omega)])
  case round =>
    obtain ⟨k, hk, rfl, R⟩ := hrel
    by_cases hlt : k < 24
    · have d1 : decide ((k : Int) < 24) = true := by simp; omega
      have b0 := R.out.2.2.cell (i := 276 + k) (by omega)
      have b1 := R.out.2.2.free (276 + k)
      by_cases hkn : k < n
      · have d2 : decide ((k : Int) < (n : Int)) = true := by simp; omega
        obtain ⟨pb, po, rfl, hcell⟩ := HL.out k hkn
        have hne : (⟨pb, po + k, none⟩ : Addr) ≠ c := fun e => by rw [e, HC.out] at hcell; cases hcell
        have hpl := World.block_lt_of_cell? _ _ hcell
        have U1 : Upd c (h || orB (newB n L) k) w (wr.setCell ⟨w.heap.size + 1, 276 + k, none⟩ (.int .i64 1)) := R.out.1.setCell (by simp) _
        have rc := U1.cellc HC.out
        have rf := (U1.frozen hcb).trans HF.out
        have hcell' : wr.cell? ⟨pb, po + k, none⟩ = some (.int .i64 (L k)) := (R.out.1.cell hpl (Ne.symm hne)).trans hcell
        have hpn : pb ≠ w.heap.size + 1 := by simp at hpl; omega
        have hcell2 : (wr.setCell ⟨w.heap.size + 1, 276 + k, none⟩ (.int .i64 1)).cell? ⟨pb, po + k, none⟩ = some (.int .i64 (L k)) := (World.cell?_setCell_other _ _ _ _ (by intro e; injection e; omega)).trans hcell'
        have CC := Lib.hid (variance_any c _ (L k) _ rc rf)
        have S0 := Lib.hid (R.out.2.2.set (276 + k) 1)
        have T0 := Lib.hid (R.out.2.1.other (a := ⟨w.heap.size + 1, 276 + k, none⟩) (by simp) (.int .i64 1))
        have HU1 := Lib.hid U1
        clear U1 rc rf hcell' R
        go_wp2_with (go_at_call 50; refine CC.out.mono ?_; rintro e w' ⟨rfl, hw'⟩; have U3 := (Upd.set c (h || orB (newB n L) k || varH (L k)) (wr.setCell ⟨w.heap.size + 1, 276 + k, none⟩ (.int .i64 1))).then (by rw [show varH (L k) = clampH (L k) 1 72057594037927936 from rfl, hw']; exact Below.refl _ _); have HU2 := Lib.hid (HU1.out.trans U3); have S2 := S0.out.upd U3 (by have := hcb; omega); have HR2 := Lib.hid (T0.out.upd U3 (by have := hcb; omega)); have c0 := S2.cell (i := 276 + k) (by omega); have c1 := S2.free (276 + k); have HS2 := Lib.hid S2; clear hw' U3 S2)
        go_roundw
        case rel =>
          refine ⟨k + 1, by omega, by go_num, ?_, HR2.out.other (by simp) _, ?_⟩
          · rw [show (h || orB (newB n L) (k + 1)) = (h || orB (newB n L) k || varH (L k)) from by simp [orB, newB, hkn, Bool.or_assoc]]
            exact HU2.out.setCell (by simp) _
          · refine (HS2.out.set _ _).congr fun i hi => ?_
            simp only [Go.Proofs.Ytanmddenleffaaa.upd, newI]
            by_cases h1 : i = 276 + k
            · subst h1; rw [if_pos rfl, if_neg (by omega), if_pos (by omega), show 276 + k - 276 = k by omega, if_pos hkn]; rfl
            · rw [if_neg h1, if_neg h1]; split <;> first | rfl | (split <;> split <;> first | rfl | omega)
        case measure => simp [intOf]; omega
      · have d2 : decide ((k : Int) < (n : Int)) = false := by simp; omega
        go_wp2_with fail
        go_roundw
        case rel =>
          refine ⟨k + 1, by omega, by go_num, ?_, R.out.2.1.other (by simp) _, ?_⟩
          · rw [show (h || orB (newB n L) (k + 1)) = (h || orB (newB n L) k) from by simp [orB, newB, hkn]]
            exact R.out.1.setCell (by simp) _
          · refine (R.out.2.2.set _ _).congr fun i hi => ?_
            simp only [Go.Proofs.Ytanmddenleffaaa.upd, newI]
            by_cases h1 : i = 276 + k
            · subst h1; rw [if_pos rfl, if_neg (by omega), if_pos (by omega), show 276 + k - 276 = k by omega, if_neg hkn]
            · rw [if_neg h1]; split; rfl; split <;> split <;> first | rfl | omega
        case measure => simp [intOf]; omega
    · have hk24 : k = 24 := by omega
      subst hk24
      have B0 := R.out.2.1
      have B1 := R.out.2.2
      have HB := Lib.hid R.out.1
      clear R hlt hk
      rw [show ((24 : Nat) : Int) = 24 from rfl]
      go_wp2_with (first | (refine wpList_load_row rfl 59 _ rfl (w.heap.size + 1) rfl 59 _ (0, 0) _ B1 Try.underlying59 rfl (icov.trans (by rw [arrv_size])) ?_) | (refine wpList_store_row rfl 59 _ _ rfl w.heap.size _ rfl rfl 59 _ B0 (icov.trans (by rw [arrv_size])) (by rw [arrv_size, arrv_size]) (oneCell_arrv _ _) ?_))
      refine bodyPost_ret (results_cell_row Try.results23 _ _ w.heap.size 59 (arrv 300 (newI n L 24)) (0, 0) _ rfl (setRow_heap _ _ _ _ _ _ B0) Try.underlying59 rfl (icov.trans (by rw [arrv_size]))) rfl ⟨?_, ?_⟩
      · rw [arrv_congr (g := newF n L) fun i hi => by simp only [newI, newF]; split <;> first | rfl | (rw [if_pos (by omega)])]
      · exact HB.out.then' (below_row (Below.refl _ _) (Nat.le_refl _) _)
end Go.Proofs.Ytanmddenleffaaa
/- The closed numbers of law 17's awake. No program beyond the numbers' names. -/
namespace Go.Proofs.Ytanmddenleffaaa
/-- A step's flag, as the kernel reckons it. -/
theorem st_closed {f F q : Nat → Int} (h1 : condH f = false) (h2 : loop1H q F 24 = false) (h : stO (rowF 24 (fS F 24 0)) (colF (condF f)) (stepE f q) = true) : stepH f F q = false := by
  have k := stO_ok (W := stepW f F) h fun i k hi hk => by
    unfold stepW rowsW rwV
    rw [show (i * 48 + k) % 48 = k by omega, show (i * 48 + k) / 48 = i by omega]
  unfold stepH
  rw [h1, h2, k.2]
  have r : rowsH (condF f) (fS F 24 0) = false := by
    unfold rowsH rwH
    exact orB_none fun k' hk => orB_none (p := fun i => rwB (condF f) (fS F 24 0) i k') fun i hi => k.1 i k' hi hk
  rw [r]; rfl
def jaS : Nat → Int := fun i => if i = 0 then 1073741824 else 0
def jaI : Nat → Int := fun i => if i = 1 then 1000000 else 0
def jaN : Nat → Int := fun i => if i = 3 then 8 else 0
def jaL : Nat → Int := fun _ => 17592186044416
set_option maxRecDepth 100000 in
theorem ja_of : jofF jaS jaI (7 * 24 + 4) = 1073741824 ∧ jofF jaS jaI (4 * 24 + 13) = -1073741824 ∧ jofF jaS jaI 0 = 1073741824 ∧ jofF jaS jaI (1 * 24 + 10) = -536870912 ∧ jofF jaS jaI (20 * 24 + 20) = 1073741824 ∧ jofH jaS jaI = false := by decide +kernel
theorem ja_tu : tuF jaS jaS 0 = 2147483648 ∧ tuF jaS jaS (1 * 4 + 3) = 2147483648 ∧ tuH jaS jaS = false := by decide +kernel
theorem ja_no : noF jaN 500000 3 = 4 ∧ noH jaN 500000 = false ∧ noH (fun _ => 0) 1000000 = false := by decide +kernel
theorem ja_new : newH 1 jaL = false := by decide +kernel
theorem ja_cond : condH (newF 1 jaL) = false := by decide +kernel
set_option maxRecDepth 100000 in
theorem ja_one : loop1H (noF (fun _ => 0) 1000000) (jofF jaS jaI) 24 = false := by decide +kernel
set_option maxRecDepth 100000 in
theorem ja_st : stO (rowF 24 (fS (jofF jaS jaI) 24 0)) (colF (condF (newF 1 jaL))) (stepE (newF 1 jaL) (noF (fun _ => 0) 1000000)) = true := by decide +kernel
theorem ja_step : stepH (newF 1 jaL) (jofF jaS jaI) (noF (fun _ => 0) 1000000) = false := st_closed ja_cond ja_one ja_st
end Go.Proofs.Ytanmddenleffaaa
/- A call's own blocks as a list: what holds of them all, whatever is called between. -/
namespace Go.Proofs.Ytanmddenleffaaa
open Go.RowKit
theorem ls_row_other {w : World} {g : Nat} (cs : Array Value) {p : Addr} (h : p.block ≠ g) : (w.setRow g cs).cell? p = w.cell? p ∧ (w.setRow g cs).frozen? p = w.frozen? p := by
  have e := Go.setRow_other w g p.block cs h
  constructor
  · simp only [World.cell?, e]
  · simp only [World.frozen?, e]
/-- A block of numbers: where, of what type, how many, which. -/
structure Lx where
  b : Nat
  T : Nat
  n : Nat
  F : Nat → Int
/-- The flag at c is h; the blocks E lie from w's end to top. -/
structure LsR (c : Addr) (h : Bool) (E : List Lx) (top : Nat) (w wr : World) : Prop where
  upd : Upd c h w wr
  cell : wr.cell? c = some (.bool h)
  free : wr.frozen? c = false
  cb : c.block < w.heap.size
  ex : ∀ e, e ∈ E → Blk wr e.b e.T e.n e.F ∧ w.heap.size ≤ e.b ∧ e.b < top
  lim : w.heap.size ≤ top
  le : top ≤ wr.heap.size
section
variable {c : Addr} {h h' : Bool} {E : List Lx} {top : Nat} {w wr w' : World}
theorem LsR.upd' (s : LsR c h E top w wr) (u : Upd c h' wr w') : LsR c h' E top w w' := by
  have hcb := s.cb
  have hl := s.lim
  exact ⟨s.upd.trans u, u.cellc s.cell, (u.frozen (World.block_lt_of_cell? _ _ s.cell)).trans s.free, s.cb, fun e he => ⟨(s.ex e he).1.upd u (by have := (s.ex e he).2.1; omega), (s.ex e he).2⟩, s.lim, Nat.le_trans s.le u.size⟩
theorem LsR.low (s : LsR c h E top w wr) (u : Below top wr w') (hz : top ≤ w'.heap.size) : LsR c h E top w w' := by
  have hcb := s.cb
  have hl := s.lim
  exact ⟨s.upd.then' (u.mono (by omega)), (u.cell (by omega)).trans s.cell, (u.frozen (by omega)).trans s.free, s.cb, fun e he => ⟨(u.block _ (s.ex e he).2.2).trans (s.ex e he).1, (s.ex e he).2⟩, s.lim, hz⟩
theorem LsR.down (s : LsR c h E top w wr) (u : Below wr.heap.size wr w') : LsR c h E top w w' := s.low (u.mono s.le) (Nat.le_trans s.le u.size)
theorem LsR.drew (s : LsR c h E top w wr) : LsR c h E top w wr.drew := s.down (Below.drew (Below.refl _ _))
theorem LsR.alloc (s : LsR c h E top w wr) (o : Obj) : LsR c h E top w (wr.alloc o) := s.down ((Below.refl _ _).alloc (Nat.le_refl _) o)
/-- One more block, laid at the end. -/
theorem LsR.lay (s : LsR c h E top w wr) (T n : Nat) (F : Nat → Int) : LsR c h (⟨wr.heap.size, T, n, F⟩ :: E) (wr.heap.size + 1) w (wr.alloc (.cells (arrv n F) T)) := by
  have k := s.alloc (.cells (arrv n F) T)
  have hl := s.lim
  have hle := s.le
  refine ⟨k.upd, k.cell, k.free, k.cb, fun e he => ?_, by omega, by simp⟩
  rcases List.mem_cons.1 he with rfl | he
  · exact ⟨Blk.new _ _ _ _, by simp only; omega, by simp⟩
  · have := k.ex e he
    exact ⟨this.1, this.2.1, by omega⟩
/-- .. and filled. -/
theorem LsR.put (s : LsR c h E top w wr) (T n : Nat) (G F : Nat → Int) : LsR c h (⟨wr.heap.size, T, n, F⟩ :: E) (wr.heap.size + 1) w ((wr.alloc (.cells (arrv n G) T)).setRow wr.heap.size (arrv n F)) := by
  have hl := s.lim
  have hle := s.le
  have b : Below wr.heap.size wr ((wr.alloc (.cells (arrv n G) T)).setRow wr.heap.size (arrv n F)) := below_row ((Below.refl _ _).alloc (Nat.le_refl _) _) (Nat.le_refl _) _
  have k := s.down b
  refine ⟨k.upd, k.cell, k.free, k.cb, fun e he => ?_, by omega, by rw [setRow_size]; simp⟩
  rcases List.mem_cons.1 he with rfl | he
  · exact ⟨(Blk.new _ _ _ _).setRow F, by simp only; omega, by simp⟩
  · have := k.ex e he
    exact ⟨this.1, this.2.1, by omega⟩
theorem LsR.e0 {b T n : Nat} {F : Nat → Int} (s : LsR c h (⟨b, T, n, F⟩ :: E) top w wr) : Blk wr b T n F := (s.ex _ (.head _)).1
theorem LsR.tail {a : Lx} (s : LsR c h (a :: E) top w wr) : LsR c h E top w wr := ⟨s.upd, s.cell, s.free, s.cb, fun e he => s.ex e (.tail _ he), s.lim, s.le⟩
theorem LsR.e1 {a : Lx} {b T n : Nat} {F : Nat → Int} (s : LsR c h (a :: ⟨b, T, n, F⟩ :: E) top w wr) : Blk wr b T n F := s.tail.e0
theorem LsR.e2 {a a2 : Lx} {b T n : Nat} {F : Nat → Int} (s : LsR c h (a :: a2 :: ⟨b, T, n, F⟩ :: E) top w wr) : Blk wr b T n F := s.tail.e1
theorem LsR.e3 {a a2 a3 : Lx} {b T n : Nat} {F : Nat → Int} (s : LsR c h (a :: a2 :: a3 :: ⟨b, T, n, F⟩ :: E) top w wr) : Blk wr b T n F := s.tail.e2
theorem LsR.e4 {a a2 a3 a4 : Lx} {b T n : Nat} {F : Nat → Int} (s : LsR c h (a :: a2 :: a3 :: a4 :: ⟨b, T, n, F⟩ :: E) top w wr) : Blk wr b T n F := s.tail.e3
theorem LsR.e5 {a a2 a3 a4 a5 : Lx} {b T n : Nat} {F : Nat → Int} (s : LsR c h (a :: a2 :: a3 :: a4 :: a5 :: ⟨b, T, n, F⟩ :: E) top w wr) : Blk wr b T n F := s.tail.e4
theorem LsR.e6 {a a2 a3 a4 a5 a6 : Lx} {b T n : Nat} {F : Nat → Int} (s : LsR c h (a :: a2 :: a3 :: a4 :: a5 :: a6 :: ⟨b, T, n, F⟩ :: E) top w wr) : Blk wr b T n F := s.tail.e5
theorem LsR.e7 {a a2 a3 a4 a5 a6 a7 : Lx} {b T n : Nat} {F : Nat → Int} (s : LsR c h (a :: a2 :: a3 :: a4 :: a5 :: a6 :: a7 :: ⟨b, T, n, F⟩ :: E) top w wr) : Blk wr b T n F := s.tail.e6
/-- The first block's row stored. -/
theorem LsR.row {b T n : Nat} {F : Nat → Int} (s : LsR c h (⟨b, T, n, F⟩ :: E) top w wr) (hn : ∀ e, e ∈ E → e.b ≠ b) (G : Nat → Int) : LsR c h (⟨b, T, n, G⟩ :: E) top w (wr.setRow b (arrv n G)) := by
  have h0 := s.ex _ (.head _)
  have hcb := s.cb
  have hb : w.heap.size ≤ b := h0.2.1
  refine ⟨s.upd.then' (below_row (Below.refl _ _) hb _), by rw [(ls_row_other _ (by omega)).1]; exact s.cell, by rw [(ls_row_other _ (by omega)).2]; exact s.free, s.cb, fun e he => ?_, s.lim, by rw [setRow_size]; exact s.le⟩
  rcases List.mem_cons.1 he with rfl | he
  · exact ⟨h0.1.setRow G, h0.2⟩
  · have := s.ex e (.tail _ he)
    exact ⟨this.1.setRow_other _ (hn e he), this.2⟩
/-- The first block's cell stored. -/
theorem LsR.set {b T n : Nat} {F : Nat → Int} (s : LsR c h (⟨b, T, n, F⟩ :: E) top w wr) (hn : ∀ e, e ∈ E → e.b ≠ b) (i : Nat) (x : Int) : LsR c h (⟨b, T, n, Go.Proofs.Ytanmddenleffaaa.upd F i x⟩ :: E) top w (wr.setCell ⟨b, i, none⟩ (.int .i64 x)) := by
  have h0 := s.ex _ (.head _)
  have hcb := s.cb
  have hb : w.heap.size ≤ b := h0.2.1
  have hne : (⟨b, i, none⟩ : Addr) ≠ c := fun e => by rw [← e] at hcb; simp only at hcb; omega
  refine ⟨s.upd.setCell hb _, (World.cell?_setCell_other _ _ _ _ hne).trans s.cell, (World.frozen?_setCell ..).trans s.free, s.cb, fun e he => ?_, s.lim, by rw [setCell_size]; exact s.le⟩
  rcases List.mem_cons.1 he with rfl | he
  · exact ⟨h0.1.set i x, h0.2⟩
  · have := s.ex e (.tail _ he)
    exact ⟨this.1.other (hn e he) _, this.2⟩
theorem LsR.congr {b T n : Nat} {F G : Nat → Int} (s : LsR c h (⟨b, T, n, F⟩ :: E) top w wr) (eh : h = h') (e : ∀ i, i < n → F i = G i) : LsR c h' (⟨b, T, n, G⟩ :: E) top w wr := by
  subst eh
  refine ⟨s.upd, s.cell, s.free, s.cb, fun x hx => ?_, s.lim, s.le⟩
  rcases List.mem_cons.1 hx with rfl | hx
  · exact ⟨s.e0.congr e, (s.ex _ (.head _)).2⟩
  · exact s.ex x (.tail _ hx)
/-- The blocks in another order, or some of them. -/
theorem LsR.sub {E' : List Lx} (s : LsR c h E top w wr) (hs : ∀ e, e ∈ E' → e ∈ E) : LsR c h E' top w wr := ⟨s.upd, s.cell, s.free, s.cb, fun e he => s.ex e (hs e he), s.lim, s.le⟩
/-- A block that was laid somewhere behind the others, filled. -/
theorem LsR.fill {b T n : Nat} {f : Nat → Int} (s : LsR c h E top w wr) (hb : Blk wr b T n f) (ht : top ≤ b) (F : Nat → Int) : LsR c h (⟨b, T, n, F⟩ :: E) (b + 1) w (wr.setRow b (arrv n F)) := by
  have hl := s.lim
  have k := s.low (below_row (Below.refl _ _) ht (arrv n F)) (by rw [setRow_size]; exact s.le)
  refine ⟨k.upd, k.cell, k.free, k.cb, fun e he => ?_, by omega, by rw [setRow_size]; exact hb.lt⟩
  rcases List.mem_cons.1 he with rfl | he
  · exact ⟨hb.setRow F, by simp only; omega, by simp⟩
  · have := k.ex e he
    exact ⟨this.1, this.2.1, by omega⟩
theorem ls_nil (hc : w.cell? c = some (.bool h)) (hf : w.frozen? c = false) : LsR c h [] w.heap.size w w := ⟨Upd.refl hc, hc, hf, World.block_lt_of_cell? w c hc, (fun e he => by cases he), Nat.le_refl _, Nat.le_refl _⟩
end
end Go.Proofs.Ytanmddenleffaaa
