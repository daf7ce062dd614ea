/- Contracts of the program's functions and plain laws, part 19: they hold for all arguments. -/
import Derived.Test.YtiajjiphknlldaaGreatQ13
import Derived.Test.YtiajjiphknlldaaGreatQ16
import Derived.Test.YtiajjiphknlldaaGreatQ18
import Derived.Test.YtiajjiphknlldaaGreatQ09
/- Contract of the reference's One. -/
namespace Go.Proofs.YtiajjiphknlldaaGreat
open Go.RowKit
set_option maxRecDepth 100000
theorem iob16 : (Tryz.prog.info? 46).map (·.size) = some 27 := by kernel_rfl
theorem ire16 : (Tryz.prog.info? 42).map (·.size) = some 3 := by kernel_rfl
def RRes (w : World) (b : Nat) (t : Bool) (y s : Int) : Prop := w.heap[b]? = some (.cells (res3 t y s) 42 (0, 0))
theorem RRes.c {w : World} {b : Nat} {t : Bool} {y s : Int} (h : RRes w b t y s) : (w.cell? ⟨b, 0, none⟩ = some (.bool t) ∧ w.cell? ⟨b, 1, none⟩ = some (.int .i64 y) ∧ w.cell? ⟨b, 2, none⟩ = some (.int .i64 s)) ∧
    w.frozen? ⟨b, 0, none⟩ = false ∧ w.frozen? ⟨b, 1, none⟩ = false ∧ w.frozen? ⟨b, 2, none⟩ = false :=
  ⟨⟨by rw [cell_of_row w b 0 _ _ _ h]; rfl, by rw [cell_of_row w b 1 _ _ _ h]; rfl, by rw [cell_of_row w b 2 _ _ _ h]; rfl⟩, frozen_of_row w b 0 _ _ h, frozen_of_row w b 1 _ _ h, frozen_of_row w b 2 _ _ h⟩
theorem RRes.lt {w : World} {b : Nat} {t : Bool} {y s : Int} (h : RRes w b t y s) : b < w.heap.size := World.block_lt_of_cell? w _ h.c.1.1
theorem RRes.below {w w' : World} {b : Nat} {t : Bool} {y s : Int} (h : RRes w b t y s) (hb : Below w.heap.size w w') : RRes w' b t y s := (hb.block b h.lt).trans h
theorem RRes.alloc {w : World} {b : Nat} {t : Bool} {y s : Int} (h : RRes w b t y s) (o : Obj) : RRes (w.alloc o) b t y s := h.below ((Below.refl w.heap.size w).alloc (Nat.le_refl _) o)
theorem RRes.new (w : World) (t : Bool) (y s : Int) : RRes (w.alloc (.cells (res3 t y s) 42)) w.heap.size t y s := heap_alloc_new w _
theorem RRes.other {w : World} {b : Nat} {t : Bool} {y s : Int} (h : RRes w b t y s) {a : Addr} (ha : b ≠ a.block) (v : Value) : RRes (w.setCell a v) b t y s := (heap_setCell_other w a b v ha).trans h
theorem RRes.upd {w w' : World} {b : Nat} {t : Bool} {y s : Int} (h : RRes w b t y s) {c : Addr} {v : Bool} (u : Upd c v w w') (hn : b ≠ c.block) : RRes w' b t y s := (u.block h.lt hn).trans h
theorem RRes.row {w : World} {b k : Nat} {t : Bool} {y s : Int} (h : RRes w b t y s) (cs : Array Value) (hk : b ≠ k) : RRes (w.setRow k cs) b t y s := (Go.setRow_other w k b cs hk).trans h
theorem RRes.set {w : World} {b : Nat} {t : Bool} {y s : Int} (h : RRes w b t y s) (t' : Bool) (y' s' : Int) : RRes (w.setRow b (res3 t' y' s')) b t' y' s' := setRow_heap w b _ _ 42 _ h
theorem RRes.take {w : World} {b : Nat} {t : Bool} {y s : Int} (h : RRes w b t y s) (t' : Bool) : RRes (w.setCell ⟨b, 0, none⟩ (.bool t')) b t' y s := heap_setCell_same w b 0 _ _ (.bool t') h
theorem RRes.set3 {w : World} {b : Nat} {t : Bool} {y s : Int} (h : RRes w b t y s) (t' : Bool) (y' s' : Int) : RRes (((w.setCell ⟨b, 0, none⟩ (.bool t')).setCell ⟨b, 1, none⟩ (.int .i64 y')).setCell ⟨b, 2, none⟩ (.int .i64 s')) b t' y' s' := by
  have h1 := heap_setCell_same w b 0 _ _ (.bool t') h
  have h2 := heap_setCell_same _ b 1 _ _ (.int .i64 y') h1
  exact heap_setCell_same _ b 2 _ _ (.int .i64 s') h2
structure FqR (c : Addr) (h : Bool) (S P O : Nat → Int) (w wr : World) : Prop where
  upd : Upd c h w wr
  s : Blk wr w.heap.size 23 24 S
  p : Blk wr (w.heap.size + 1) 26 300 P
  o : Blk wr (w.heap.size + 1 + 1) 46 27 O
  r0 : Blk wr (w.heap.size + 1 + 1 + 1) 23 24 (fun _ => 0)
  r1 : Blk wr (w.heap.size + 1 + 1 + 1 + 1) 26 300 (fun _ => 0)
  r2 : RRes wr (w.heap.size + 1 + 1 + 1 + 1 + 1) false 0 0
theorem FqR.upd' {c : Addr} {h h' : Bool} {S P O : Nat → Int} {w wr w' : World} (r : FqR c h S P O w wr) (hc : c.block < w.heap.size) (u : Upd c h' wr w') : FqR c h' S P O w w' :=
  ⟨r.upd.trans u, r.s.upd u (by omega), r.p.upd u (by omega), r.o.upd u (by omega), r.r0.upd u (by omega), r.r1.upd u (by omega), r.r2.upd u (by omega)⟩
theorem FqR.down {c : Addr} {h : Bool} {S P O : Nat → Int} {w wr w' : World} (r : FqR c h S P O w wr) (u : Below wr.heap.size wr w') : FqR c h S P O w w' :=
  ⟨r.upd.then u, r.s.below u, r.p.below u, r.o.below u, r.r0.below u, r.r1.below u, r.r2.below u⟩
theorem FqR.drew {c : Addr} {h : Bool} {S P O : Nat → Int} {w wr : World} (r : FqR c h S P O w wr) : FqR c h S P O w wr.drew := ⟨r.upd.drew, r.s, r.p, r.o, r.r0, r.r1, r.r2⟩
theorem FqR.rowS {c : Addr} {h : Bool} {S P O : Nat → Int} {w wr : World} (r : FqR c h S P O w wr) (F : Nat → Int) : FqR c h F P O w (wr.setRow w.heap.size (arrv 24 F)) :=
  ⟨r.upd.then' (below_row (Below.refl _ _) (Nat.le_refl _) _), r.s.setRow F, r.p.setRow_other _ (by omega), r.o.setRow_other _ (by omega), r.r0.setRow_other _ (by omega), r.r1.setRow_other _ (by omega), r.r2.row _ (by omega)⟩
theorem FqR.rowP {c : Addr} {h : Bool} {S P O : Nat → Int} {w wr : World} (r : FqR c h S P O w wr) (F : Nat → Int) : FqR c h S F O w (wr.setRow (w.heap.size + 1) (arrv 300 F)) :=
  ⟨r.upd.then' (below_row (Below.refl _ _) (by omega) _), r.s.setRow_other _ (by omega), r.p.setRow F, r.o.setRow_other _ (by omega), r.r0.setRow_other _ (by omega), r.r1.setRow_other _ (by omega), r.r2.row _ (by omega)⟩
theorem fq_start (c : Addr) (h : Bool) (S P O : Nat → Int) (w : World) (hc : w.cell? c = some (.bool h)) : FqR c h S P O w ((((((w.alloc (.cells (arrv 24 S) 23)).alloc (.cells (arrv 300 P) 26)).alloc (.cells (arrv 27 O) 46)).alloc (.cells #[.int .i64 0, .int .i64 0, .int .i64 0, .int .i64 0, .int .i64 0, .int .i64 0, .int .i64 0, .int .i64 0, .int .i64 0, .int .i64 0, .int .i64 0, .int .i64 0, .int .i64 0, .int .i64 0, .int .i64 0, .int .i64 0, .int .i64 0, .int .i64 0, .int .i64 0, .int .i64 0, .int .i64 0, .int .i64 0, .int .i64 0, .int .i64 0] 23)).alloc (.cells Tryz.zeroCells26 26)).alloc (.cells #[.bool false, .int .i64 0, .int .i64 0] 42)) := by
  rw [zvec24, zcov]
  have h3 := blk_new3 w (.cells (arrv 24 S) 23) (.cells (arrv 300 P) 26) (.cells (arrv 27 O) 46) 23 24 (fun _ => 0)
  have h4 := Blk.new ((((w.alloc (.cells (arrv 24 S) 23)).alloc (.cells (arrv 300 P) 26)).alloc (.cells (arrv 27 O) 46)).alloc (.cells (arrv 24 (fun _ => 0)) 23)) 26 300 (fun _ => 0)
  rw [show ((((w.alloc (.cells (arrv 24 S) 23)).alloc (.cells (arrv 300 P) 26)).alloc (.cells (arrv 27 O) 46)).alloc (.cells (arrv 24 (fun _ => 0)) 23)).heap.size = w.heap.size + 1 + 1 + 1 + 1 from by simp] at h4
  have h5 := RRes.new (((((w.alloc (.cells (arrv 24 S) 23)).alloc (.cells (arrv 300 P) 26)).alloc (.cells (arrv 27 O) 46)).alloc (.cells (arrv 24 (fun _ => 0)) 23)).alloc (.cells (arrv 300 (fun _ => 0)) 26)) false 0 0
  rw [show (((((w.alloc (.cells (arrv 24 S) 23)).alloc (.cells (arrv 300 P) 26)).alloc (.cells (arrv 27 O) 46)).alloc (.cells (arrv 24 (fun _ => 0)) 23)).alloc (.cells (arrv 300 (fun _ => 0)) 26)).heap.size = w.heap.size + 1 + 1 + 1 + 1 + 1 from by simp] at h5
  exact ⟨Upd.then (Upd.refl hc) (by (repeat (first | with_reducible exact Below.refl _ _ | with_reducible apply Below.drew | (with_reducible refine below_drewN ?_ _) | (with_reducible refine Below.alloc ?_ (by (try simp) <;> omega) _) | (with_reducible refine Below.setCell ?_ (by (try simp) <;> omega) _)))), ((((Blk.new w _ 24 _).alloc _).alloc _).alloc _).alloc _ |>.alloc _, (((Blk.new1 w _ _ 300 _).alloc _).alloc _).alloc _ |>.alloc _, ((blk_new2 w _ _ _ 27 _).alloc _).alloc _ |>.alloc _, (h3.alloc _).alloc _, h4.alloc _, h5⟩
theorem FqR.other {c : Addr} {h : Bool} {S P O : Nat → Int} {w wr : World} (r : FqR c h S P O w wr) {b o : Nat} (hb : w.heap.size + 1 + 1 + 1 + 1 + 1 < b) (v : Value) : FqR c h S P O w (wr.setCell ⟨b, o, none⟩ v) :=
  ⟨r.upd.setCell (by simp; omega) _, r.s.other (by simp; omega) _, r.p.other (by simp; omega) _, r.o.other (by simp; omega) _, r.r0.other (by simp; omega) _, r.r1.other (by simp; omega) _, r.r2.other (by simp; omega) _⟩
set_option maxHeartbeats 8000000 in
/-- Behind the first steps: the state kept, the factors conditioned, the number clamped, its variance told, and whether it is likely. -/
theorem rone16_no (c : Addr) (h : Bool) (S P O : Nat → Int) (w : World) (hc : w.cell? c = some (.bool h)) (hf : w.frozen? c = false) (hO : -9223372036854775808 ≤ O 26 ∧ O 26 ≤ 9223372036854775807) (hL : foL P O = false) :
    Calls Tryz.prog 6 #[.pointer (some c), .agg (arrv 24 S), .agg (arrv 300 P), .agg (arrv 27 O)] w fun e w' =>
      e = .returned (.tuple #[.agg (arrv 24 (keepF S)), .agg (arrv 300 (condF P)), .agg (res3 false (foY O) (foS P O))]) ∧ Upd c (h || foH S P O) w w' := by
  have hcb := World.block_lt_of_cell? w c hc
  have R0 := Lib.hid (fq_start c h S P O w hc)
  have HC := Lib.hid hc
  have HF := Lib.hid hf
  have HL := Lib.hid hL
  have HO := Lib.hid hO
  clear hc hf hL hO
  go_enter Tryz.func6, Tryz.ntmps6
  go_upto_region 1 with fail
  generalize ((((((w.alloc (.cells (arrv 24 S) 23)).alloc (.cells (arrv 300 P) 26)).alloc (.cells (arrv 27 O) 46)).alloc (.cells #[.int .i64 0, .int .i64 0, .int .i64 0, .int .i64 0, .int .i64 0, .int .i64 0, .int .i64 0, .int .i64 0, .int .i64 0, .int .i64 0, .int .i64 0, .int .i64 0, .int .i64 0, .int .i64 0, .int .i64 0, .int .i64 0, .int .i64 0, .int .i64 0, .int .i64 0, .int .i64 0, .int .i64 0, .int .i64 0, .int .i64 0, .int .i64 0] 23)).alloc (.cells Tryz.zeroCells26 26)).alloc (.cells #[.bool false, .int .i64 0, .int .i64 0] 42)) = W0 at *
  have s0 := R0.out.s
  have KC := Lib.hid (rkeep16_any c h S W0 (R0.out.upd.cellc HC.out) ((R0.out.upd.frozen hcb).trans HF.out))
  go_upto_region 2 with (first | (refine wpList_load_row rfl 23 _ rfl (w.heap.size) rfl 23 _ (0, 0) _ (s0) Tryz.underlying23 rfl (ist.trans (by rw [arrv_size])) ?_) | (go_at_call 20; (refine KC.out.mono ?_); rintro e w1 ⟨rfl, hu1⟩; have R1 := Lib.hid (R0.out.upd' hcb hu1); have s1 := R1.out.s; clear hu1) | (refine wpList_store_row rfl 23 _ _ rfl (w.heap.size) _ rfl rfl 23 _ (s1) (ist.trans (by rw [arrv_size])) (by rw [arrv_size, arrv_size]) (oneCell_arrv _ _) ?_))
  have R2 := Lib.hid (R1.out.rowS (keepF S))
  generalize w1.setRow w.heap.size (arrv 24 (keepF S)) = W2 at *
  clear s0 s1 R0 R1 KC
  have p0 := R2.out.p
  have CC := Lib.hid (rcond_any c (h || keepH S) P W2 (R2.out.upd.cellc HC.out) ((R2.out.upd.frozen hcb).trans HF.out))
  go_upto_region 3 with (first | (refine wpList_load_row rfl 26 _ rfl (w.heap.size + 1) rfl 26 _ (0, 0) _ (p0) Tryz.underlying26 rfl (icov.trans (by rw [arrv_size])) ?_) | (go_at_call 21; (refine CC.out.mono ?_); rintro e w3 ⟨rfl, hu3⟩; have R3 := Lib.hid (R2.out.upd' hcb hu3); have p3 := R3.out.p; clear hu3) | (refine wpList_store_row rfl 26 _ _ rfl (w.heap.size + 1) _ rfl rfl 26 _ (p3) (icov.trans (by rw [arrv_size])) (by rw [arrv_size, arrv_size]) (oneCell_arrv _ _) ?_))
  have HS := Lib.hid (R3.out.rowP (condF P))
  generalize w3.setRow (w.heap.size + 1) (arrv 300 (condF P)) = W3 at *
  clear p0 p3 R2 R3 CC
  have o24 := HS.out.o.cell (i := 24) (by decide)
  have SA := Lib.hid (rsat_any c (h || keepH S || condH P) (O 24) W3.drew (by exact HS.out.upd.cellc HC.out) (by exact (HS.out.upd.frozen hcb).trans HF.out))
  refine wp_region_M (fun w' => w'.cell? ⟨w.heap.size + 1 + 1, 24, none⟩ = some (.int .i64 (O 24))) 6 (by kernel_rfl) ?_ (fun hHeld => ?_)
  · exact o24
  refine wpAnyM_take 0 (v := ?_) rfl (by kernel_rfl) (fun _ _ _ h => h) (Or.inl ⟨by rfl, ?_⟩) (by assumption) ?_
  rotate_left
  · (intro wx hSw; (try dsimp only at hSw); go_simp; (try with_reducible rfl))
  (try simp only [Act.put, nA, nB, nC])
  refine wpAnyM_take 1 (v := ?_) rfl (by kernel_rfl) (fun _ _ _ h => h) (Or.inl ⟨by rfl, ?_⟩) (by assumption) ?_
  rotate_left
  · (intro wx hSw; (try dsimp only at hSw); go_simp; (try with_reducible rfl))
  (try simp only [Act.put, nA, nB, nC])
  refine wpAnyM_take 2 (v := ?_) rfl (by kernel_rfl) (fun _ _ _ h => h) (Or.inl ⟨by rfl, ?_⟩) (by assumption) ?_
  rotate_left
  · (intro wx hSw; (try dsimp only at hSw); go_simp; (try with_reducible rfl))
  (try simp only [Act.put, nA, nB, nC])
  refine wpAnyM_take 3 (v := ?_) rfl (by kernel_rfl) (fun _ _ _ h => h) (Or.inl ⟨by rfl, ?_⟩) (by assumption) ?_
  rotate_left
  · (intro wx hSw; (try dsimp only at hSw); go_simp; (try with_reducible rfl))
  (try simp only [Act.put, nA, nB, nC])
  refine wpAnyM_take 4 (v := ?_) rfl (by kernel_rfl) (fun _ _ _ h => h) (Or.inl ⟨by rfl, ?_⟩) (by assumption) ?_
  rotate_left
  · (intro wx hSw; (try dsimp only at hSw); go_simp; (try with_reducible rfl))
  (try simp only [Act.put, nA, nB, nC])
  refine wpAnyM_oneS 5 rfl (by kernel_rfl) (fun K hK => ?_)
  go_simp
  (refine SA.out.mono ?_); rintro e w3 ⟨rfl, hw3⟩; have U3 := (Upd.set c (h || keepH S || condH P || satH (O 24)) W3.drew).then (by rw [hw3]; exact Below.refl _ _); have H3 := Lib.hid (HS.out.drew.upd' hcb U3); have o25' := H3.out.o.cell (i := 24) (by decide); clear U3 hw3
  (try dsimp only)
  (try simp only [Act.put, nA, nB, nC])
  clear hHeld
  refine hK.out _ _ ?_ (fun hHeld => ?_)
  · exact o25'
  clear hK K
  (try simp only [Act.put, nA, nB, nC])
  refine wpAnyM_one 6 rfl (by kernel_rfl) (fun K hK => ?_)
  go_simp
  refine hK.out _ _ (.inl (by kernel_rfl)) (fun _ => ?_)
  clear hK K
  (try simp only [Act.put, nA, nB, nC])
  refine wpAnyM_done (by kernel_rfl) ?_ _
  (try clear hHeld)
  obtain ⟨PP, hPP⟩ : ∃ x, condF P = x := ⟨_, rfl⟩
  obtain ⟨KK, hKK⟩ : ∃ x, keepF S = x := ⟨_, rfl⟩
  obtain ⟨YV, hYV⟩ : ∃ x, satV (O 24) = x := ⟨_, rfl⟩
  obtain ⟨SV, hSV⟩ : ∃ x, updS PP O (O 25) = x := ⟨_, rfl⟩
  obtain ⟨H1, hH1⟩ : ∃ x, (h || keepH S || condH P || satH (O 24)) = x := ⟨_, rfl⟩
  obtain ⟨H2, hH2⟩ : ∃ x, (H1 || lkH PP O (O 25)) = x := ⟨_, rfl⟩
  have E : Hid (foY O = YV ∧ foS P O = SV ∧ keepF S = KK ∧ condF P = PP ∧ (h || foH S P O) = H2) := by
    refine Lib.hid ⟨hYV, by unfold foS; rw [hPP]; exact hSV, hKK, hPP, ?_⟩
    unfold foH; rw [← hH2, ← hH1, hPP]; simp only [Bool.or_assoc]
  have LK : Hid (likB YV SV (O 26) = false) := by
    have := HL.out
    unfold foL at this
    rw [E.out.1, E.out.2.1] at this
    exact Lib.hid this
  rw [hKK, hPP, hH1] at H3
  rw [hYV]
  have P3 := H3.out.p
  have O3 := H3.out.o
  have o25 := O3.cell (i := 25) (by decide)
  have IN := rinno_any c H1 PP O (O 25) w3 (H3.out.upd.cellc HC.out) ((H3.out.upd.frozen hcb).trans HF.out)
  rw [hSV, hH2] at IN
  have IN := Lib.hid IN
  clear hPP hKK hYV hSV hH1 hH2 HS SA o24 o25' HL
  go_upto_region 5 with (first | (refine wpList_load_row rfl 26 _ rfl (w.heap.size + 1) rfl 26 _ (0, 0) _ (P3) Tryz.underlying26 rfl (icov.trans (by rw [arrv_size])) ?_) | (refine wpList_load_sub rfl 22 _ rfl (w.heap.size + 1 + 1) 0 24 rfl O3 (by decide) _ Tryz.underlying22 rfl icol ?_; rw [show (fun i => O (0 + i)) = O from by funext i; rw [Nat.zero_add]]) | (go_at_call 23; (refine IN.out.mono ?_); rintro e w4 ⟨rfl, hu4⟩; have H4 := Lib.hid (H3.out.upd' hcb hu4); clear hu4))
  clear H3 P3 O3 o25 IN
  have o26 := H4.out.o.cell (i := 26) (by decide)
  have LI := rlikely16_any YV SV (O 26) w4 HO.out.1 HO.out.2
  rw [LK.out] at LI
  have LI := Lib.hid LI
  go_upto_region 6 with (go_at_call 24; (refine LI.out.mono ?_); rintro e w6 ⟨rfl, hb6⟩; have H6 := Lib.hid (H4.out.down hb6); clear hb6)
  clear LI o26 H4
  have S6 := H6.out.r0
  have XW := H6.out.upd.drew
  refine wp_region_M (fun w' => Blk w' w.heap.size 23 24 KK ∧ Blk w' (w.heap.size + 1) 26 300 PP) 7 (by kernel_rfl) ?_ (fun hHeld => ?_)
  · exact ⟨H6.out.s.drew, H6.out.p.drew⟩
  refine wpAnyM_take 0 (v := ?_) rfl (by kernel_rfl) (fun _ _ _ h => h) (Or.inl ⟨by rfl, ?_⟩) (by assumption) ?_
  rotate_left
  · (intro wx hSw; refine Eq.trans (run_load_row 23 (.tmp 5) (by rfl) (w.heap.size) (by rfl) _ _ _ _ (hSw.1) Tryz.underlying23 rfl (ist.trans (by rw [arrv_size]))) ?_; with_reducible rfl)
  (try simp only [Act.put, nA, nB, nC])
  refine wpAnyM_take 1 (v := ?_) rfl (by kernel_rfl) (fun _ _ _ h => h) (Or.inl ⟨by rfl, ?_⟩) (by assumption) ?_
  rotate_left
  · (intro wx hSw; refine Eq.trans (run_load_row 26 (.tmp 6) (by rfl) (w.heap.size + 1) (by rfl) _ _ _ _ (hSw.2) Tryz.underlying26 rfl (icov.trans (by rw [arrv_size]))) ?_; with_reducible rfl)
  (try simp only [Act.put, nA, nB, nC])
  refine wpAnyM_take 2 (v := ?_) rfl (by kernel_rfl) (fun _ _ _ h => h) (Or.inl ⟨by rfl, ?_⟩) (by assumption) ?_
  rotate_left
  · (intro wx hSw; (try dsimp only at hSw); go_simp; (try with_reducible rfl))
  (try simp only [Act.put, nA, nB, nC])
  refine wpAnyM_take 3 (v := ?_) rfl (by kernel_rfl) (fun _ _ _ h => h) (Or.inl ⟨by rfl, ?_⟩) (by assumption) ?_
  rotate_left
  · (intro wx hSw; (try dsimp only at hSw); go_simp; (try with_reducible rfl))
  (try simp only [Act.put, nA, nB, nC])
  refine wpAnyM_take 4 (v := ?_) rfl (by kernel_rfl) (fun _ _ _ h => h) (Or.inl ⟨by rfl, ?_⟩) (by assumption) ?_
  rotate_left
  · (intro wx hSw; (try dsimp only at hSw); go_simp; (try with_reducible rfl))
  (try simp only [Act.put, nA, nB, nC])
  refine wpAnyM_oneS 5 rfl (by kernel_rfl) (fun K hK => ?_)
  go_simp; rw [if_pos (arrv_size _ _), run_storeCells_row _ S6.drew]; go_simp; have T6 : Blk (w6.drew.setRow (w.heap.size + 1 + 1 + 1) (arrv 24 KK)) (w.heap.size + 1 + 1 + 1 + 1) 26 300 (fun _ => 0) := H6.out.r1.drew.setRow_other _ (by omega)
  clear hHeld
  refine hK.out _ _ ?_ (fun hHeld => ?_)
  · exact ⟨H6.out.s.drew.setRow_other _ (by omega), H6.out.p.drew.setRow_other _ (by omega)⟩
  clear hK K
  (try simp only [Act.put, nA, nB, nC])
  refine wpAnyM_oneS 6 rfl (by kernel_rfl) (fun K hK => ?_)
  go_simp; rw [if_pos (arrv_size _ _), run_storeCells_row _ T6]; go_simp; have V6 : RRes ((w6.drew.setRow (w.heap.size + 1 + 1 + 1) (arrv 24 KK)).setRow (w.heap.size + 1 + 1 + 1 + 1) (arrv 300 PP)) (w.heap.size + 1 + 1 + 1 + 1 + 1) false 0 0 := (H6.out.r2.row _ (by omega)).row _ (by omega); obtain ⟨⟨v0, v1, v2⟩, y0, y1, y2⟩ := V6.c
  clear hHeld
  refine hK.out _ _ ?_ (fun hHeld => ?_)
  · exact ⟨(H6.out.s.drew.setRow_other _ (by omega)).setRow_other _ (by omega), (H6.out.p.drew.setRow_other _ (by omega)).setRow_other _ (by omega)⟩
  clear hK K
  (try simp only [Act.put, nA, nB, nC])
  refine wpAnyM_one 7 rfl (by kernel_rfl) (fun K hK => ?_)
  go_simp
  refine hK.out _ _ (.inl (by kernel_rfl)) (fun _ => ?_)
  clear hK K
  (try simp only [Act.put, nA, nB, nC])
  refine wpAnyM_done (by kernel_rfl) ?_ _
  have S6 : Blk w6.drew (w.heap.size + 1 + 1 + 1) 23 24 (fun _ => 0) := S6
  have X0 : Blk ((w6.drew.setRow (w.heap.size + 1 + 1 + 1) (arrv 24 KK)).setRow (w.heap.size + 1 + 1 + 1 + 1) (arrv 300 PP)) (w.heap.size + 1 + 1 + 1) 23 24 KK := (S6.setRow KK).setRow_other _ (by omega)
  have X1 : Blk ((w6.drew.setRow (w.heap.size + 1 + 1 + 1) (arrv 24 KK)).setRow (w.heap.size + 1 + 1 + 1 + 1) (arrv 300 PP)) (w.heap.size + 1 + 1 + 1 + 1) 26 300 PP := T6.setRow PP
  have XU : Upd c H2 w ((w6.drew.setRow (w.heap.size + 1 + 1 + 1) (arrv 24 KK)).setRow (w.heap.size + 1 + 1 + 1 + 1) (arrv 300 PP)) := XW.then' (below_row (below_row (Below.refl _ _) (by omega) _) (by omega) _)
  generalize (w6.drew.setRow (w.heap.size + 1 + 1 + 1) (arrv 24 KK)).setRow (w.heap.size + 1 + 1 + 1 + 1) (arrv 300 PP) = w12 at *
  have Y0 := ((X0.other (a := ⟨w.heap.size + 1 + 1 + 1 + 1 + 1, 0, none⟩) (by simp) (.bool false)).other (a := ⟨w.heap.size + 1 + 1 + 1 + 1 + 1, 1, none⟩) (by simp) (.int .i64 YV)).other (a := ⟨w.heap.size + 1 + 1 + 1 + 1 + 1, 2, none⟩) (by simp) (.int .i64 SV)
  have Y1 := ((X1.other (a := ⟨w.heap.size + 1 + 1 + 1 + 1 + 1, 0, none⟩) (by simp) (.bool false)).other (a := ⟨w.heap.size + 1 + 1 + 1 + 1 + 1, 1, none⟩) (by simp) (.int .i64 YV)).other (a := ⟨w.heap.size + 1 + 1 + 1 + 1 + 1, 2, none⟩) (by simp) (.int .i64 SV)
  have Y2 := V6.set3 false YV SV
  have YU := ((XU.setCell (p := ⟨w.heap.size + 1 + 1 + 1 + 1 + 1, 0, none⟩) (by simp; omega) (.bool false)).setCell (p := ⟨w.heap.size + 1 + 1 + 1 + 1 + 1, 1, none⟩) (by simp; omega) (.int .i64 YV)).setCell (p := ⟨w.heap.size + 1 + 1 + 1 + 1 + 1, 2, none⟩) (by simp; omega) (.int .i64 SV)
  go_wp2_with fail
  refine bodyPost_ret_by (results_rows3 Tryz.results6 _ _ (w.heap.size + 1 + 1 + 1) (w.heap.size + 1 + 1 + 1 + 1) (w.heap.size + 1 + 1 + 1 + 1 + 1) 23 26 42 (arrv 24 KK) (arrv 300 PP) (res3 false YV SV) (0, 0) (0, 0) (0, 0) _ _ _ rfl Y0 Tryz.underlying23 rfl (ist.trans (by rw [arrv_size])) rfl Y1 Tryz.underlying26 rfl (icov.trans (by rw [arrv_size])) rfl Y2 Tryz.underlying42 rfl (ire16.trans rfl)) rfl ⟨?_, ?_⟩
  · rw [E.out.1, E.out.2.1, E.out.2.2.1, E.out.2.2.2.1]
  · rw [E.out.2.2.2.2]; exact YU
set_option maxHeartbeats 8000000 in
theorem rone16_yes (c : Addr) (h : Bool) (S P O : Nat → Int) (w : World) (hc : w.cell? c = some (.bool h)) (hf : w.frozen? c = false) (hO : -9223372036854775808 ≤ O 26 ∧ O 26 ≤ 9223372036854775807) (hL : foL P O = true) :
    Calls Tryz.prog 6 #[.pointer (some c), .agg (arrv 24 S), .agg (arrv 300 P), .agg (arrv 27 O)] w fun e w' =>
      e = .returned (.tuple #[.agg (arrv 24 (foA S P O)), .agg (arrv 300 (foQ P O)), .agg (res3 true (foY O) (foS P O))]) ∧ Upd c (h || foTH S P O) w w' := by
  have hcb := World.block_lt_of_cell? w c hc
  have R0 := Lib.hid (fq_start c h S P O w hc)
  have HC := Lib.hid hc
  have HF := Lib.hid hf
  have HL := Lib.hid hL
  have HO := Lib.hid hO
  clear hc hf hL hO
  go_enter Tryz.func6, Tryz.ntmps6
  go_upto_region 1 with fail
  generalize ((((((w.alloc (.cells (arrv 24 S) 23)).alloc (.cells (arrv 300 P) 26)).alloc (.cells (arrv 27 O) 46)).alloc (.cells #[.int .i64 0, .int .i64 0, .int .i64 0, .int .i64 0, .int .i64 0, .int .i64 0, .int .i64 0, .int .i64 0, .int .i64 0, .int .i64 0, .int .i64 0, .int .i64 0, .int .i64 0, .int .i64 0, .int .i64 0, .int .i64 0, .int .i64 0, .int .i64 0, .int .i64 0, .int .i64 0, .int .i64 0, .int .i64 0, .int .i64 0, .int .i64 0] 23)).alloc (.cells Tryz.zeroCells26 26)).alloc (.cells #[.bool false, .int .i64 0, .int .i64 0] 42)) = W0 at *
  have s0 := R0.out.s
  have KC := Lib.hid (rkeep16_any c h S W0 (R0.out.upd.cellc HC.out) ((R0.out.upd.frozen hcb).trans HF.out))
  go_upto_region 2 with (first | (refine wpList_load_row rfl 23 _ rfl (w.heap.size) rfl 23 _ (0, 0) _ (s0) Tryz.underlying23 rfl (ist.trans (by rw [arrv_size])) ?_) | (go_at_call 20; (refine KC.out.mono ?_); rintro e w1 ⟨rfl, hu1⟩; have R1 := Lib.hid (R0.out.upd' hcb hu1); have s1 := R1.out.s; clear hu1) | (refine wpList_store_row rfl 23 _ _ rfl (w.heap.size) _ rfl rfl 23 _ (s1) (ist.trans (by rw [arrv_size])) (by rw [arrv_size, arrv_size]) (oneCell_arrv _ _) ?_))
  have R2 := Lib.hid (R1.out.rowS (keepF S))
  generalize w1.setRow w.heap.size (arrv 24 (keepF S)) = W2 at *
  clear s0 s1 R0 R1 KC
  have p0 := R2.out.p
  have CC := Lib.hid (rcond_any c (h || keepH S) P W2 (R2.out.upd.cellc HC.out) ((R2.out.upd.frozen hcb).trans HF.out))
  go_upto_region 3 with (first | (refine wpList_load_row rfl 26 _ rfl (w.heap.size + 1) rfl 26 _ (0, 0) _ (p0) Tryz.underlying26 rfl (icov.trans (by rw [arrv_size])) ?_) | (go_at_call 21; (refine CC.out.mono ?_); rintro e w3 ⟨rfl, hu3⟩; have R3 := Lib.hid (R2.out.upd' hcb hu3); have p3 := R3.out.p; clear hu3) | (refine wpList_store_row rfl 26 _ _ rfl (w.heap.size + 1) _ rfl rfl 26 _ (p3) (icov.trans (by rw [arrv_size])) (by rw [arrv_size, arrv_size]) (oneCell_arrv _ _) ?_))
  have HS := Lib.hid (R3.out.rowP (condF P))
  generalize w3.setRow (w.heap.size + 1) (arrv 300 (condF P)) = W3 at *
  clear p0 p3 R2 R3 CC
  have o24 := HS.out.o.cell (i := 24) (by decide)
  have SA := Lib.hid (rsat_any c (h || keepH S || condH P) (O 24) W3.drew (by exact HS.out.upd.cellc HC.out) (by exact (HS.out.upd.frozen hcb).trans HF.out))
  refine wp_region_M (fun w' => w'.cell? ⟨w.heap.size + 1 + 1, 24, none⟩ = some (.int .i64 (O 24))) 6 (by kernel_rfl) ?_ (fun hHeld => ?_)
  · exact o24
  refine wpAnyM_take 0 (v := ?_) rfl (by kernel_rfl) (fun _ _ _ h => h) (Or.inl ⟨by rfl, ?_⟩) (by assumption) ?_
  rotate_left
  · (intro wx hSw; (try dsimp only at hSw); go_simp; (try with_reducible rfl))
  (try simp only [Act.put, nA, nB, nC])
  refine wpAnyM_take 1 (v := ?_) rfl (by kernel_rfl) (fun _ _ _ h => h) (Or.inl ⟨by rfl, ?_⟩) (by assumption) ?_
  rotate_left
  · (intro wx hSw; (try dsimp only at hSw); go_simp; (try with_reducible rfl))
  (try simp only [Act.put, nA, nB, nC])
  refine wpAnyM_take 2 (v := ?_) rfl (by kernel_rfl) (fun _ _ _ h => h) (Or.inl ⟨by rfl, ?_⟩) (by assumption) ?_
  rotate_left
  · (intro wx hSw; (try dsimp only at hSw); go_simp; (try with_reducible rfl))
  (try simp only [Act.put, nA, nB, nC])
  refine wpAnyM_take 3 (v := ?_) rfl (by kernel_rfl) (fun _ _ _ h => h) (Or.inl ⟨by rfl, ?_⟩) (by assumption) ?_
  rotate_left
  · (intro wx hSw; (try dsimp only at hSw); go_simp; (try with_reducible rfl))
  (try simp only [Act.put, nA, nB, nC])
  refine wpAnyM_take 4 (v := ?_) rfl (by kernel_rfl) (fun _ _ _ h => h) (Or.inl ⟨by rfl, ?_⟩) (by assumption) ?_
  rotate_left
  · (intro wx hSw; (try dsimp only at hSw); go_simp; (try with_reducible rfl))
  (try simp only [Act.put, nA, nB, nC])
  refine wpAnyM_oneS 5 rfl (by kernel_rfl) (fun K hK => ?_)
  go_simp
  (refine SA.out.mono ?_); rintro e w3 ⟨rfl, hw3⟩; have U3 := (Upd.set c (h || keepH S || condH P || satH (O 24)) W3.drew).then (by rw [hw3]; exact Below.refl _ _); have H3 := Lib.hid (HS.out.drew.upd' hcb U3); have o25' := H3.out.o.cell (i := 24) (by decide); clear U3 hw3
  (try dsimp only)
  (try simp only [Act.put, nA, nB, nC])
  clear hHeld
  refine hK.out _ _ ?_ (fun hHeld => ?_)
  · exact o25'
  clear hK K
  (try simp only [Act.put, nA, nB, nC])
  refine wpAnyM_one 6 rfl (by kernel_rfl) (fun K hK => ?_)
  go_simp
  refine hK.out _ _ (.inl (by kernel_rfl)) (fun _ => ?_)
  clear hK K
  (try simp only [Act.put, nA, nB, nC])
  refine wpAnyM_done (by kernel_rfl) ?_ _
  (try clear hHeld)
  obtain ⟨PP, hPP⟩ : ∃ x, condF P = x := ⟨_, rfl⟩
  obtain ⟨KK, hKK⟩ : ∃ x, keepF S = x := ⟨_, rfl⟩
  obtain ⟨YV, hYV⟩ : ∃ x, satV (O 24) = x := ⟨_, rfl⟩
  obtain ⟨SV, hSV⟩ : ∃ x, updS PP O (O 25) = x := ⟨_, rfl⟩
  obtain ⟨H1, hH1⟩ : ∃ x, (h || keepH S || condH P || satH (O 24)) = x := ⟨_, rfl⟩
  obtain ⟨H2, hH2⟩ : ∃ x, (H1 || lkH PP O (O 25)) = x := ⟨_, rfl⟩
  obtain ⟨QQ, hQQ⟩ : ∃ x, updP PP O (O 25) = x := ⟨_, rfl⟩
  obtain ⟨GG, hGG⟩ : ∃ x, updG PP O (O 25) = x := ⟨_, rfl⟩
  obtain ⟨GN, hGN⟩ : ∃ x, gnF GG YV 24 = x := ⟨_, rfl⟩
  obtain ⟨AA, hAA⟩ : ∃ x, addNF KK GN 1 = x := ⟨_, rfl⟩
  obtain ⟨H3', hH3⟩ : ∃ x, (H2 || updH PP O (O 25)) = x := ⟨_, rfl⟩
  obtain ⟨H4', hH4⟩ : ∃ x, (H3' || orB (gnB GG YV) 24) = x := ⟨_, rfl⟩
  obtain ⟨H5', hH5⟩ : ∃ x, (H4' || addNH KK GN 1) = x := ⟨_, rfl⟩
  have eG : foG P O = GN := by unfold foG foY; rw [hPP, hGG, hYV]; exact hGN
  have E : Hid (foY O = YV ∧ foS P O = SV ∧ foA S P O = AA ∧ foQ P O = QQ ∧ (h || foTH S P O) = H5') := by
    refine Lib.hid ⟨hYV, by unfold foS; rw [hPP]; exact hSV, by unfold foA; rw [eG, hKK]; exact hAA, by unfold foQ; rw [hPP]; exact hQQ, ?_⟩
    unfold foTH; rw [eG]; unfold foH foY; rw [← hH5, ← hH4, ← hH3, ← hH2, ← hH1, hPP, hGG, hKK, hYV]; simp only [Bool.or_assoc]
  have HQ := Lib.hid (And.intro hQQ (And.intro hGG (And.intro hGN hAA)))
  have HH := Lib.hid (And.intro hH3 (And.intro hH4 hH5))
  have HSV := Lib.hid hSV
  have LK : Hid (likB YV SV (O 26) = true) := by
    have := HL.out
    unfold foL at this
    rw [E.out.1, E.out.2.1] at this
    exact Lib.hid this
  rw [hKK, hPP, hH1] at H3
  rw [hYV]
  have P3 := H3.out.p
  have O3 := H3.out.o
  have o25 := O3.cell (i := 25) (by decide)
  have IN := rinno_any c H1 PP O (O 25) w3 (H3.out.upd.cellc HC.out) ((H3.out.upd.frozen hcb).trans HF.out)
  rw [hSV, hH2] at IN
  have IN := Lib.hid IN
  clear hPP hKK hYV hSV hH1 hH2 HS SA o24 o25' HL hQQ hGG hGN hAA hH3 hH4 hH5 eG
  go_upto_region 5 with (first | (refine wpList_load_row rfl 26 _ rfl (w.heap.size + 1) rfl 26 _ (0, 0) _ (P3) Tryz.underlying26 rfl (icov.trans (by rw [arrv_size])) ?_) | (refine wpList_load_sub rfl 22 _ rfl (w.heap.size + 1 + 1) 0 24 rfl O3 (by decide) _ Tryz.underlying22 rfl icol ?_; rw [show (fun i => O (0 + i)) = O from by funext i; rw [Nat.zero_add]]) | (go_at_call 23; (refine IN.out.mono ?_); rintro e w4 ⟨rfl, hu4⟩; have H4 := Lib.hid (H3.out.upd' hcb hu4); clear hu4))
  clear H3 P3 O3 o25 IN
  have o26 := H4.out.o.cell (i := 26) (by decide)
  have LI := rlikely16_any YV SV (O 26) w4 HO.out.1 HO.out.2
  rw [LK.out] at LI
  have LI := Lib.hid LI
  go_upto_region 7 with (go_at_call 24; (refine LI.out.mono ?_); rintro e w6 ⟨rfl, hb6⟩; have H6 := Lib.hid (H4.out.down hb6); clear hb6)
  clear LI o26 H4
  have P7 := H6.out.p
  have O7 := H6.out.o
  have o25 := O7.cell (i := 25) (by decide)
  have UP := rupd_any c H2 PP O (O 25) w6 (H6.out.upd.cellc HC.out) ((H6.out.upd.frozen hcb).trans HF.out)
  rw [HQ.out.1, HQ.out.2.1, HSV.out, HH.out.1] at UP
  have UP := Lib.hid UP
  refine wp_region_lit ?_
  refine wpList_val (v := ?_) rfl ?_ ?_
  rotate_left
  · (go_simp; (try (first | with_reducible rfl | (constructor <;> with_reducible rfl))))
  (try simp only [Act.put, nA, nB, nC])
  refine wpList_val (v := ?_) rfl ?_ ?_
  rotate_left
  · refine Eq.trans (run_load_row 26 (.tmp 6) (by rfl) (w.heap.size + 1) (by rfl) _ _ _ _ (P7) Tryz.underlying26 rfl (icov.trans (by rw [arrv_size]))) ?_; with_reducible rfl
  (try simp only [Act.put, nA, nB, nC])
  refine wpList_val (v := ?_) rfl ?_ ?_
  rotate_left
  · (go_simp; (try (first | with_reducible rfl | (constructor <;> with_reducible rfl))))
  (try simp only [Act.put, nA, nB, nC])
  refine wpList_val (v := ?_) rfl ?_ ?_
  rotate_left
  · refine Eq.trans (run_load_sub 22 (.tmp 50) (by rfl) (w.heap.size + 1 + 1) 0 24 (by rfl) O7 (by decide) _ Tryz.underlying22 rfl icol) ?_; rw [show (fun i => O (0 + i)) = O from by funext i; rw [Nat.zero_add]]; (try with_reducible rfl)
  (try simp only [Act.put, nA, nB, nC])
  refine wpList_val (v := ?_) rfl ?_ ?_
  rotate_left
  · (go_simp; (try (first | with_reducible rfl | (constructor <;> with_reducible rfl))))
  (try simp only [Act.put, nA, nB, nC])
  refine wpList_val (v := ?_) rfl ?_ ?_
  rotate_left
  · (go_simp; (try (first | with_reducible rfl | (constructor <;> with_reducible rfl))))
  (try simp only [Act.put, nA, nB, nC])
  refine wpList_step (fun K hK => ?_)
  go_simp
  (refine UP.out.mono ?_); rintro e w8 ⟨rfl, hu8⟩; have H8 := Lib.hid (H6.out.upd' hcb hu8); have RA : Blk ((w8.alloc (.cells Tryz.zeroCells26 26)).alloc (.cells #[.int .i64 0, .int .i64 0, .int .i64 0, .int .i64 0, .int .i64 0, .int .i64 0, .int .i64 0, .int .i64 0, .int .i64 0, .int .i64 0, .int .i64 0, .int .i64 0, .int .i64 0, .int .i64 0, .int .i64 0, .int .i64 0, .int .i64 0, .int .i64 0, .int .i64 0, .int .i64 0, .int .i64 0, .int .i64 0, .int .i64 0, .int .i64 0] 22)) w8.heap.size 26 300 (fun _ => 0) := (by rw [zcov]; exact (Blk.new _ _ _ _).alloc _); have RB : Blk (((w8.alloc (.cells Tryz.zeroCells26 26)).alloc (.cells #[.int .i64 0, .int .i64 0, .int .i64 0, .int .i64 0, .int .i64 0, .int .i64 0, .int .i64 0, .int .i64 0, .int .i64 0, .int .i64 0, .int .i64 0, .int .i64 0, .int .i64 0, .int .i64 0, .int .i64 0, .int .i64 0, .int .i64 0, .int .i64 0, .int .i64 0, .int .i64 0, .int .i64 0, .int .i64 0, .int .i64 0, .int .i64 0] 22)).setRow w8.heap.size (arrv 300 QQ)) (w8.heap.size + 1) 22 24 (fun _ => 0) := (by rw [zcol]; exact (Blk.new1 _ _ _ _ _).setRow_other _ (by omega)); clear hu8
  (try dsimp only)
  (try simp only [Act.put, nA, nB, nC])
  refine hK _ _ ?_
  clear hK K
  refine wpList_val (v := ?_) rfl ?_ ?_
  rotate_left
  · (go_simp; (try (first | with_reducible rfl | (constructor <;> with_reducible rfl))))
  (try simp only [Act.put, nA, nB, nC])
  refine wpList_val (v := ?_) rfl ?_ ?_
  rotate_left
  · (go_simp; (try (first | with_reducible rfl | (constructor <;> with_reducible rfl))))
  (try simp only [Act.put, nA, nB, nC])
  refine wpList_val (v := ?_) rfl ?_ ?_
  rotate_left
  · (go_simp; (try (first | with_reducible rfl | (constructor <;> with_reducible rfl))))
  (try simp only [Act.put, nA, nB, nC])
  refine wpList_val (v := ?_) rfl ?_ ?_
  rotate_left
  · (go_simp; (try (first | with_reducible rfl | (constructor <;> with_reducible rfl))))
  (try simp only [Act.put, nA, nB, nC])
  refine wpList_act (v := ?_) (w' := ?_) rfl ?_ ?_
  rotate_left 2
  · (go_simp; (try (first | with_reducible rfl | (constructor <;> with_reducible rfl))))
  (try simp only [Act.put, nA, nB, nC])
  refine wpList_act (v := ?_) (w' := ?_) rfl ?_ ?_
  rotate_left 2
  · (go_simp; (try (first | with_reducible rfl | (constructor <;> with_reducible rfl))))
  (try simp only [Act.put, nA, nB, nC])
  refine wpList_done (w' := ?_) rfl ?_ ?_
  rotate_left
  · refine Eq.trans (run_store_row 26 (.tmp 13) (.tmp 55) (by rfl) (w8.heap.size) (by rfl) (by rfl) (RA) (icov.trans rfl)) ?_; with_reducible rfl
  (try simp only [Act.put, nA, nB, nC])
  refine wpList_done (w' := ?_) rfl ?_ ?_
  rotate_left
  · refine Eq.trans (run_store_row 22 (.tmp 14) (.tmp 56) (by rfl) (w8.heap.size + 1) (by rfl) (by rfl) (RB) (icol.trans rfl)) ?_; with_reducible rfl
  (try simp only [Act.put, nA, nB, nC])
  refine wpList_val (v := ?_) rfl ?_ ?_
  rotate_left
  · (go_simp; (try (first | with_reducible rfl | (constructor <;> with_reducible rfl))))
  (try simp only [Act.put, nA, nB, nC])
  refine wpList_nil ?_
  obtain ⟨W9, hW9⟩ : ∃ x, x = (((w8.alloc (.cells Tryz.zeroCells26 26)).alloc (.cells #[.int .i64 0, .int .i64 0, .int .i64 0, .int .i64 0, .int .i64 0, .int .i64 0, .int .i64 0, .int .i64 0, .int .i64 0, .int .i64 0, .int .i64 0, .int .i64 0, .int .i64 0, .int .i64 0, .int .i64 0, .int .i64 0, .int .i64 0, .int .i64 0, .int .i64 0, .int .i64 0, .int .i64 0, .int .i64 0, .int .i64 0, .int .i64 0] 22)).setRow w8.heap.size (arrv 300 QQ)).setRow (w8.heap.size + 1) (arrv 24 GG) := ⟨_, rfl⟩
  rw [← hW9]
  have N0 : Blk W9 w8.heap.size 26 300 QQ := by rw [hW9]; exact (RA.setRow QQ).setRow_other _ (by omega)
  have N1 : Blk W9 (w8.heap.size + 1) 22 24 GG := by rw [hW9]; exact RB.setRow GG
  have NB : Below w8.heap.size w8 W9 := by rw [hW9]; exact below_row (below_row (((Below.refl _ _).alloc (Nat.le_refl _) _).alloc (by simp) _) (Nat.le_refl _) _) (by omega) _
  have H9 := Lib.hid (H8.out.down NB)
  have hub : w.heap.size + 1 + 1 + 1 + 1 + 1 < w8.heap.size := H8.out.r2.lt
  obtain ⟨ub, hub2⟩ : ∃ x, w8.heap.size = x := ⟨_, rfl⟩
  rw [hub2] at N0 N1 hub ⊢
  have NN : Hid (FqR c (H3' || orB (gnB GG YV) 0) KK PP O w W9 ∧ Blk W9 ub 26 300 QQ ∧ Blk W9 (ub + 1) 22 24 (gnF GG YV 0)) := Lib.hid ⟨by rw [show (H3' || orB (gnB GG YV) 0) = H3' from by simp [orB]]; exact H9.out, N0, by rw [show gnF GG YV 0 = GG from by funext i; unfold gnF; rw [if_neg (by omega)]]; exact N1⟩
  clear N0 N1 NB hub2 RA RB H8 H6 P7 O7 o25 UP hW9 H9
  go_wp2_with fail
  go_loopw [16] (fun i wr => ∃ k : Nat, k ≤ 24 ∧ i = .int .i64 k ∧ Hid (FqR c (H3' || orB (gnB GG YV) k) KK PP O w wr ∧ Blk wr ub 26 300 QQ ∧ Blk wr (ub + 1) 22 24 (gnF GG YV k))) (fun i _ => 24 - (intOf i).toNat)
  case atStart => exact ⟨0, by omega, rfl, NN⟩
  case round =>
    obtain ⟨k, hk, rfl, R⟩ := hrel
    clear NN
    by_cases hlt : k < 24
    · have d1 : decide ((k : Int) < 24) = true := by simp; omega
      have k0 : (0 : Int) ≤ (k : Int) := Int.natCast_nonneg _
      have k1 : (k : Int) < 24 := by omega
      have b0 := R.out.2.2.cell (i := k) hlt
      rw [show gnF GG YV k k = GG k from by unfold gnF; rw [if_neg (by omega)]] at b0
      have nC : ub ≠ c.block := by omega
      have nC1 : ub + 1 ≠ c.block := by omega
      obtain ⟨F2, hF2⟩ : ∃ y, (H3' || orB (gnB GG YV) k) = y := ⟨_, rfl⟩
      rw [hF2] at R
      have EF := Lib.hid (show (H3' || orB (gnB GG YV) (k + 1)) = (F2 || mulH (GG k) YV 30) by rw [← hF2]; simp [orB, gnB, Bool.or_assoc])
      have EG := Lib.hid (show ∀ i, i < 24 → Go.Proofs.YtiajjiphknlldaaGreat.upd (gnF GG YV k) k (mulV (GG k) YV 30) i = gnF GG YV (k + 1) i from fun i hi => by
        unfold Go.Proofs.YtiajjiphknlldaaGreat.upd gnF
        by_cases h1 : i = k
        · subst h1; rw [if_pos rfl, if_pos (by omega)]
        · rw [if_neg h1]
          by_cases h2 : i < k
          · rw [if_pos h2, if_pos (by omega)]
          · rw [if_neg h2, if_neg (by omega)])
      obtain ⟨x, hx⟩ : ∃ x, GG k = x := ⟨_, rfl⟩
      rw [hx] at b0 EF EG
      have MC := Lib.hid (rm_any c F2 x YV wr.drew (by exact R.out.1.upd.cellc HC.out) (by exact (R.out.1.upd.frozen hcb).trans HF.out))
      obtain ⟨MV, hMV⟩ : ∃ y, mulV x YV 30 = y := ⟨_, rfl⟩
      obtain ⟨MH, hMH⟩ : ∃ y, mulH x YV 30 = y := ⟨_, rfl⟩
      rw [hMV, hMH] at MC
      rw [hMH] at EF
      rw [hMV] at EG
      have RD := Lib.hid (And.intro R.out.1.drew (And.intro (show Blk wr.drew ub 26 300 QQ from R.out.2.1) (show Blk wr.drew (ub + 1) 22 24 (gnF GG YV k) from R.out.2.2)))
      clear R hF2 hx hMV hMH
      go_upto_region 11 with fail
      refine wp_region_M (fun w' => w'.cell? ⟨ub + 1, k, none⟩ = some (.int .i64 x)) 10 (by kernel_rfl) ?_ (fun hHeld => ?_)
      · exact b0
      refine wpAnyM_take 0 (v := ?_) rfl (by kernel_rfl) (fun _ _ _ h => h) (Or.inl ⟨by rfl, ?_⟩) (by assumption) ?_
      rotate_left
      · (intro wx hSw; (try dsimp only at hSw); go_simp; (try with_reducible rfl))
      (try simp only [Act.put, nA, nB, nC])
      refine wpAnyM_take 1 (v := ?_) rfl (by kernel_rfl) (fun _ _ _ h => h) (Or.inl ⟨by rfl, ?_⟩) (by assumption) ?_
      rotate_left
      · (intro wx hSw; (try dsimp only at hSw); go_simp; (try with_reducible rfl))
      (try simp only [Act.put, nA, nB, nC])
      refine wpAnyM_take 2 (v := ?_) rfl (by kernel_rfl) (fun _ _ _ h => h) (Or.inl ⟨by rfl, ?_⟩) (by assumption) ?_
      rotate_left
      · (intro wx hSw; (try dsimp only at hSw); go_simp; (try with_reducible rfl))
      (try simp only [Act.put, nA, nB, nC])
      refine wpAnyM_take 3 (v := ?_) rfl (by kernel_rfl) (fun _ _ _ h => h) (Or.inl ⟨by rfl, ?_⟩) (by assumption) ?_
      rotate_left
      · (intro wx hSw; (try dsimp only at hSw); go_simp; (try with_reducible rfl))
      (try simp only [Act.put, nA, nB, nC])
      refine wpAnyM_take 4 (v := ?_) rfl (by kernel_rfl) (fun _ _ _ h => h) (Or.inl ⟨by rfl, ?_⟩) (by assumption) ?_
      rotate_left
      · (intro wx hSw; (try dsimp only at hSw); go_simp; (try with_reducible rfl))
      (try simp only [Act.put, nA, nB, nC])
      refine wpAnyM_take 5 (v := ?_) rfl (by kernel_rfl) (fun _ _ _ h => h) (Or.inl ⟨by rfl, ?_⟩) (by assumption) ?_
      rotate_left
      · (intro wx hSw; (try dsimp only at hSw); go_simp; (first | rw [if_pos (by omega)] | rw [if_pos ⟨by omega, by omega⟩] | skip); (try with_reducible rfl))
      (try simp only [Act.put, nA, nB, nC])
      refine wpAnyM_take 6 (v := ?_) rfl (by kernel_rfl) (fun _ _ _ h => h) (Or.inl ⟨by rfl, ?_⟩) (by assumption) ?_
      rotate_left
      · (intro wx hSw; (try dsimp only at hSw); go_simp; (try with_reducible rfl))
      (try simp only [Act.put, nA, nB, nC])
      refine wpAnyM_take 7 (v := ?_) rfl (by kernel_rfl) (fun _ _ _ h => h) (Or.inl ⟨by rfl, ?_⟩) (by assumption) ?_
      rotate_left
      · (intro wx hSw; (try dsimp only at hSw); go_simp; (try with_reducible rfl))
      (try simp only [Act.put, nA, nB, nC])
      refine wpAnyM_oneS 8 rfl (by kernel_rfl) (fun K hK => ?_)
      go_simp
      (refine MC.out.mono ?_); rintro e w4 ⟨rfl, hu4⟩; have R4 := Lib.hid (And.intro (RD.out.1.upd' hcb hu4) (And.intro (RD.out.2.1.upd hu4 nC) (RD.out.2.2.upd hu4 nC1))); have b1 : w4.cell? ⟨ub + 1, k, none⟩ = some (.int .i64 x) := (hu4.cell (a := ⟨ub + 1, k, none⟩) (by have := World.block_lt_of_cell? _ _ b0; exact this) (fun e => by rw [e] at hcb; simp at hcb; omega)).trans b0; have b2 := R4.out.2.2.free k; clear hu4
      (try dsimp only)
      (try simp only [Act.put, nA, nB, nC])
      clear hHeld
      refine hK.out _ _ ?_ (fun hHeld => ?_)
      · exact b1
      clear hK K
      (try simp only [Act.put, nA, nB, nC])
      refine wpAnyM_take 9 (v := ?_) rfl (by kernel_rfl) (fun _ _ _ h => h) (Or.inl ⟨by rfl, ?_⟩) (by assumption) ?_
      rotate_left
      · (intro wx hSw; (try dsimp only at hSw); go_simp; (first | rw [if_pos (by omega)] | rw [if_pos ⟨by omega, by omega⟩] | skip); (try with_reducible rfl))
      (try simp only [Act.put, nA, nB, nC])
      refine wpAnyM_one 10 rfl (by kernel_rfl) (fun K hK => ?_)
      go_simp
      refine hK.out _ _ (.inl (by kernel_rfl)) (fun _ => ?_)
      clear hK K
      (try simp only [Act.put, nA, nB, nC])
      refine wpAnyM_done (by kernel_rfl) ?_ _
      (try clear hHeld)
      go_wp2_with fail
      go_roundw
      case rel =>
        refine ⟨k + 1, by omega, by go_num, Lib.hid ⟨?_, R4.out.2.1.other (by simp) _, (R4.out.2.2.set _ _).congr EG.out⟩⟩
        rw [EF.out]
        exact R4.out.1.other (by omega) _
      case measure => simp [intOf]; omega
    · have hk24 : k = 24 := by omega
      subst hk24
      rw [show ((24 : Nat) : Int) = 24 from rfl]
      have ea : addNF KK GN 1 = add1F KK GN ∧ addNH KK GN 1 = add1H KK GN := by
        have r0 : (fun i => GN (0 * 24 + i)) = GN := by funext i; rw [Nat.zero_mul, Nat.zero_add]
        simp only [addNF, addNH, r0, Bool.false_or]
        exact ⟨trivial, trivial⟩
      have H9 : Hid (FqR c H4' KK PP O w wr ∧ Blk wr ub 26 300 QQ ∧ Blk wr (ub + 1) 22 24 GN) := Lib.hid ⟨by rw [← HH.out.2.1]; exact R.out.1, R.out.2.1, by rw [← HQ.out.2.2.1]; exact R.out.2.2⟩
      clear R hlt hk
      have AC := Lib.hid (radd16_any c H4' KK GN wr.drew (by exact H9.out.1.upd.cellc HC.out) (by exact (H9.out.1.upd.frozen hcb).trans HF.out))
      rw [← ea.1, ← ea.2, HQ.out.2.2.2, HH.out.2.2] at AC
      have nC : ub ≠ c.block := by omega
      have nC1 : ub + 1 ≠ c.block := by omega
      clear ea
      go_upto_region 12 with fail
      refine wp_region_M (fun w' => Blk w' w.heap.size 23 24 KK ∧ Blk w' (ub + 1) 22 24 GN ∧ Blk w' ub 26 300 QQ) 10 (by kernel_rfl) ?_ (fun hHeld => ?_)
      · exact ⟨H9.out.1.s.drew, H9.out.2.2.drew, H9.out.2.1.drew⟩
      refine wpAnyM_take 0 (v := ?_) rfl (by kernel_rfl) (fun _ _ _ h => h) (Or.inl ⟨by rfl, ?_⟩) (by assumption) ?_
      rotate_left
      · (intro wx hSw; (try dsimp only at hSw); go_simp; (try with_reducible rfl))
      (try simp only [Act.put, nA, nB, nC])
      refine wpAnyM_take 1 (v := ?_) rfl (by kernel_rfl) (fun _ _ _ h => h) (Or.inl ⟨by rfl, ?_⟩) (by assumption) ?_
      rotate_left
      · (intro wx hSw; refine Eq.trans (run_load_row 23 (.tmp 5) (by rfl) (w.heap.size) (by rfl) _ _ _ _ (hSw.1) Tryz.underlying23 rfl (ist.trans (by rw [arrv_size]))) ?_; with_reducible rfl)
      (try simp only [Act.put, nA, nB, nC])
      refine wpAnyM_take 2 (v := ?_) rfl (by kernel_rfl) (fun _ _ _ h => h) (Or.inl ⟨by rfl, ?_⟩) (by assumption) ?_
      rotate_left
      · (intro wx hSw; refine Eq.trans (run_load_row 22 (.tmp 14) (by rfl) (ub + 1) (by rfl) _ _ _ _ (hSw.2.1) Tryz.underlying22 rfl (icol.trans (by rw [arrv_size]))) ?_; with_reducible rfl)
      (try simp only [Act.put, nA, nB, nC])
      refine wpAnyM_take 4 (v := ?_) rfl (by kernel_rfl) (fun _ _ _ h => h) (Or.inl ⟨by rfl, ?_⟩) (by assumption) ?_
      rotate_left
      · (intro wx hSw; refine Eq.trans (run_load_row 26 (.tmp 13) (by rfl) (ub) (by rfl) _ _ _ _ (hSw.2.2) Tryz.underlying26 rfl (icov.trans (by rw [arrv_size]))) ?_; with_reducible rfl)
      (try simp only [Act.put, nA, nB, nC])
      refine wpAnyM_take 5 (v := ?_) rfl (by kernel_rfl) (fun _ _ _ h => h) (Or.inl ⟨by rfl, ?_⟩) (by assumption) ?_
      rotate_left
      · (intro wx hSw; (try dsimp only at hSw); go_simp; (try with_reducible rfl))
      (try simp only [Act.put, nA, nB, nC])
      refine wpAnyM_take 6 (v := ?_) rfl (by kernel_rfl) (fun _ _ _ h => h) (Or.inl ⟨by rfl, ?_⟩) (by assumption) ?_
      rotate_left
      · (intro wx hSw; (try dsimp only at hSw); go_simp; (try with_reducible rfl))
      (try simp only [Act.put, nA, nB, nC])
      refine wpAnyM_take 7 (v := ?_) rfl (by kernel_rfl) (fun _ _ _ h => h) (Or.inl ⟨by rfl, ?_⟩) (by assumption) ?_
      rotate_left
      · (intro wx hSw; (try dsimp only at hSw); go_simp; (try with_reducible rfl))
      (try simp only [Act.put, nA, nB, nC])
      refine wpAnyM_oneS 3 rfl (by kernel_rfl) (fun K hK => ?_)
      go_simp
      (refine AC.out.mono ?_); rintro e w11 ⟨rfl, hu11⟩; have HD := Lib.hid (And.intro (H9.out.1.drew.upd' hcb hu11) (And.intro (H9.out.2.1.drew.upd hu11 nC) (H9.out.2.2.drew.upd hu11 nC1))); have S6 := HD.out.1.r0; have XW := HD.out.1.upd; clear hu11
      (try dsimp only)
      (try simp only [Act.put, nA, nB, nC])
      clear hHeld
      refine hK.out _ _ ?_ (fun hHeld => ?_)
      · exact ⟨HD.out.1.s, HD.out.2.2, HD.out.2.1⟩
      clear hK K
      (try simp only [Act.put, nA, nB, nC])
      refine wpAnyM_oneS 8 rfl (by kernel_rfl) (fun K hK => ?_)
      go_simp; rw [if_pos (arrv_size _ _), run_storeCells_row _ S6]; go_simp; have T6 : Blk (w11.setRow (w.heap.size + 1 + 1 + 1) (arrv 24 AA)) (w.heap.size + 1 + 1 + 1 + 1) 26 300 (fun _ => 0) := HD.out.1.r1.setRow_other _ (by omega)
      clear hHeld
      refine hK.out _ _ ?_ (fun hHeld => ?_)
      · exact ⟨HD.out.1.s.setRow_other _ (by omega), HD.out.2.2.setRow_other _ (by omega), HD.out.2.1.setRow_other _ (by omega)⟩
      clear hK K
      (try simp only [Act.put, nA, nB, nC])
      refine wpAnyM_oneS 9 rfl (by kernel_rfl) (fun K hK => ?_)
      go_simp; rw [if_pos (arrv_size _ _), run_storeCells_row _ T6]; go_simp; have V6 : RRes ((w11.setRow (w.heap.size + 1 + 1 + 1) (arrv 24 AA)).setRow (w.heap.size + 1 + 1 + 1 + 1) (arrv 300 QQ)) (w.heap.size + 1 + 1 + 1 + 1 + 1) false 0 0 := (HD.out.1.r2.row _ (by omega)).row _ (by omega); obtain ⟨⟨v0, v1, v2⟩, y0, y1, y2⟩ := V6.c
      clear hHeld
      refine hK.out _ _ ?_ (fun hHeld => ?_)
      · exact ⟨(HD.out.1.s.setRow_other _ (by omega)).setRow_other _ (by omega), (HD.out.2.2.setRow_other _ (by omega)).setRow_other _ (by omega), (HD.out.2.1.setRow_other _ (by omega)).setRow_other _ (by omega)⟩
      clear hK K
      (try simp only [Act.put, nA, nB, nC])
      refine wpAnyM_one 10 rfl (by kernel_rfl) (fun K hK => ?_)
      go_simp
      refine hK.out _ _ (.inl (by kernel_rfl)) (fun _ => ?_)
      clear hK K
      (try simp only [Act.put, nA, nB, nC])
      refine wpAnyM_done (by kernel_rfl) ?_ _
      have X0 : Blk ((w11.setRow (w.heap.size + 1 + 1 + 1) (arrv 24 AA)).setRow (w.heap.size + 1 + 1 + 1 + 1) (arrv 300 QQ)) (w.heap.size + 1 + 1 + 1) 23 24 AA := (S6.setRow AA).setRow_other _ (by omega)
      have X1 : Blk ((w11.setRow (w.heap.size + 1 + 1 + 1) (arrv 24 AA)).setRow (w.heap.size + 1 + 1 + 1 + 1) (arrv 300 QQ)) (w.heap.size + 1 + 1 + 1 + 1) 26 300 QQ := T6.setRow QQ
      have XU : Upd c H5' w ((w11.setRow (w.heap.size + 1 + 1 + 1) (arrv 24 AA)).setRow (w.heap.size + 1 + 1 + 1 + 1) (arrv 300 QQ)) := XW.then' (below_row (below_row (Below.refl _ _) (by omega) _) (by omega) _)
      generalize (w11.setRow (w.heap.size + 1 + 1 + 1) (arrv 24 AA)).setRow (w.heap.size + 1 + 1 + 1 + 1) (arrv 300 QQ) = w12 at *
      have Y0 := ((X0.other (a := ⟨w.heap.size + 1 + 1 + 1 + 1 + 1, 0, none⟩) (by simp) (.bool true)).other (a := ⟨w.heap.size + 1 + 1 + 1 + 1 + 1, 1, none⟩) (by simp) (.int .i64 YV)).other (a := ⟨w.heap.size + 1 + 1 + 1 + 1 + 1, 2, none⟩) (by simp) (.int .i64 SV)
      have Y1 := ((X1.other (a := ⟨w.heap.size + 1 + 1 + 1 + 1 + 1, 0, none⟩) (by simp) (.bool true)).other (a := ⟨w.heap.size + 1 + 1 + 1 + 1 + 1, 1, none⟩) (by simp) (.int .i64 YV)).other (a := ⟨w.heap.size + 1 + 1 + 1 + 1 + 1, 2, none⟩) (by simp) (.int .i64 SV)
      have Y2 := V6.set3 true YV SV
      have YU := ((XU.setCell (p := ⟨w.heap.size + 1 + 1 + 1 + 1 + 1, 0, none⟩) (by simp; omega) (.bool true)).setCell (p := ⟨w.heap.size + 1 + 1 + 1 + 1 + 1, 1, none⟩) (by simp; omega) (.int .i64 YV)).setCell (p := ⟨w.heap.size + 1 + 1 + 1 + 1 + 1, 2, none⟩) (by simp; omega) (.int .i64 SV)
      go_wp2_with fail
      refine bodyPost_ret_by (results_rows3 Tryz.results6 _ _ (w.heap.size + 1 + 1 + 1) (w.heap.size + 1 + 1 + 1 + 1) (w.heap.size + 1 + 1 + 1 + 1 + 1) 23 26 42 (arrv 24 AA) (arrv 300 QQ) (res3 true YV SV) (0, 0) (0, 0) (0, 0) _ _ _ rfl Y0 Tryz.underlying23 rfl (ist.trans (by rw [arrv_size])) rfl Y1 Tryz.underlying26 rfl (icov.trans (by rw [arrv_size])) rfl Y2 Tryz.underlying42 rfl (ire16.trans rfl)) rfl ⟨?_, ?_⟩
      · rw [E.out.1, E.out.2.1, E.out.2.2.1, E.out.2.2.2.1]
      · rw [E.out.2.2.2.2]; exact YU
theorem rone16_any (c : Addr) (h : Bool) (S P O : Nat → Int) (w : World) (hc : w.cell? c = some (.bool h)) (hf : w.frozen? c = false) (hO : -9223372036854775808 ≤ O 26 ∧ O 26 ≤ 9223372036854775807) :
    Calls Tryz.prog 6 #[.pointer (some c), .agg (arrv 24 S), .agg (arrv 300 P), .agg (arrv 27 O)] w fun e w' =>
      e = .returned (.tuple #[.agg (arrv 24 (foSt S P O)), .agg (arrv 300 (foPt P O)), .agg (res3 (foL P O) (foY O) (foS P O))]) ∧ Upd c (h || foFl S P O) w w' := by
  by_cases hL : foL P O = true
  · have e1 : foSt S P O = foA S P O := by unfold foSt; rw [if_pos hL]
    have e2 : foPt P O = foQ P O := by unfold foPt; rw [if_pos hL]
    have e3 : foFl S P O = foTH S P O := by unfold foFl; rw [if_pos hL]
    rw [e1, e2, e3, hL]
    exact rone16_yes c h S P O w hc hf hO hL
  · have hL2 : foL P O = false := by simpa using hL
    have e1 : foSt S P O = keepF S := by unfold foSt; rw [if_neg hL]
    have e2 : foPt P O = condF P := by unfold foPt; rw [if_neg hL]
    have e3 : foFl S P O = foH S P O := by unfold foFl; rw [if_neg hL]
    rw [e1, e2, e3, hL2]
    exact rone16_no c h S P O w hc hf hO hL2
end Go.Proofs.YtiajjiphknlldaaGreat
