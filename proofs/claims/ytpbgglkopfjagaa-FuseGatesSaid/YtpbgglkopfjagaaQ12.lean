/- Contracts of the program's functions and plain laws, part 12: they hold for all arguments. -/
import Derived.Test.YtpbgglkopfjagaaQ11
import Derived.Test.YtpbgglkopfjagaaQ07
import Derived.Test.YtpbgglkopfjagaaQ08
/- Update's two rows, made and filled; a row's number. -/
namespace Go.Proofs.Ytpbgglkopfjagaa
open Go.RowKit
set_option maxRecDepth 100000
theorem two_made {w3 w4 : World} (F G : Nat → Int) (e : w4 = ((((w3.alloc (.cells Try.zeroCells26 26)).alloc (.cells #[.int .i64 0, .int .i64 0, .int .i64 0, .int .i64 0, .int .i64 0, .int .i64 0, .int .i64 0, .int .i64 0, .int .i64 0, .int .i64 0, .int .i64 0, .int .i64 0, .int .i64 0, .int .i64 0, .int .i64 0, .int .i64 0, .int .i64 0, .int .i64 0, .int .i64 0, .int .i64 0, .int .i64 0, .int .i64 0, .int .i64 0, .int .i64 0] 39)).setRow w3.heap.size (arrv 300 F)).setRow (w3.heap.size + 1) (arrv 24 G))) :
    Blk w4 w3.heap.size 26 300 F ∧ Blk w4 (w3.heap.size + 1) 39 24 G ∧ Below w3.heap.size w3 w4 := by
  subst e
  rw [zcov, zrow]
  refine ⟨?_, ?_, ?_⟩
  · exact ((((Blk.new w3 _ _ _).alloc _).setRow F).setRow_other _ (by omega))
  · exact (((Blk.new1 w3 _ _ _ _).setRow_other _ (by omega)).setRow G)
  · exact below_row (below_row (((Below.refl _ _).alloc (Nat.le_refl _) _).alloc (by simp) _) (Nat.le_refl _) _) (by omega) _
end Go.Proofs.Ytpbgglkopfjagaa
/- fuse.One (1): what it tells, what the walk carries, small laws. -/
namespace Go.Proofs.Ytpbgglkopfjagaa
open Go.RowKit
set_option maxRecDepth 100000
theorem iob : (Try.prog.info? 41).map (·.size) = some 27 := by kernel_rfl
theorem ire : (Try.prog.info? 36).map (·.size) = some 3 := by kernel_rfl
/-- Block b holds what became of a number. -/
def res3 (t : Bool) (y s : Int) : Array Value := #[.bool t, .int .i64 y, .int .i64 s]
def Res (w : World) (b : Nat) (t : Bool) (y s : Int) : Prop := w.heap[b]? = some (.cells (res3 t y s) 36 (0, 0))
theorem Res.c {w : World} {b : Nat} {t : Bool} {y s : Int} (h : Res w b t y s) : (w.cell? ⟨b, 0, none⟩ = some (.bool t) ∧ w.cell? ⟨b, 1, none⟩ = some (.int .i64 y) ∧ w.cell? ⟨b, 2, none⟩ = some (.int .i64 s)) ∧
    w.frozen? ⟨b, 0, none⟩ = false ∧ w.frozen? ⟨b, 1, none⟩ = false ∧ w.frozen? ⟨b, 2, none⟩ = false :=
  ⟨⟨by rw [cell_of_row w b 0 _ _ _ h]; rfl, by rw [cell_of_row w b 1 _ _ _ h]; rfl, by rw [cell_of_row w b 2 _ _ _ h]; rfl⟩, frozen_of_row w b 0 _ _ h, frozen_of_row w b 1 _ _ h, frozen_of_row w b 2 _ _ h⟩
theorem Res.lt {w : World} {b : Nat} {t : Bool} {y s : Int} (h : Res w b t y s) : b < w.heap.size := World.block_lt_of_cell? w _ h.c.1.1
theorem Res.below {w w' : World} {b : Nat} {t : Bool} {y s : Int} (h : Res w b t y s) (hb : Below w.heap.size w w') : Res w' b t y s := (hb.block b h.lt).trans h
theorem Res.alloc {w : World} {b : Nat} {t : Bool} {y s : Int} (h : Res w b t y s) (o : Obj) : Res (w.alloc o) b t y s := h.below ((Below.refl w.heap.size w).alloc (Nat.le_refl _) o)
theorem Res.new (w : World) (t : Bool) (y s : Int) : Res (w.alloc (.cells (res3 t y s) 36)) w.heap.size t y s := heap_alloc_new w _
theorem Res.other {w : World} {b : Nat} {t : Bool} {y s : Int} (h : Res w b t y s) {a : Addr} (ha : b ≠ a.block) (v : Value) : Res (w.setCell a v) b t y s := (heap_setCell_other w a b v ha).trans h
theorem Res.upd {w w' : World} {b : Nat} {t : Bool} {y s : Int} (h : Res w b t y s) {c : Addr} {v : Bool} (u : Upd c v w w') (hn : b ≠ c.block) : Res w' b t y s := (u.block h.lt hn).trans h
theorem Res.row {w : World} {b k : Nat} {t : Bool} {y s : Int} (h : Res w b t y s) (cs : Array Value) (hk : b ≠ k) : Res (w.setRow k cs) b t y s := (Go.setRow_other w k b cs hk).trans h
theorem Res.set {w : World} {b : Nat} {t : Bool} {y s : Int} (h : Res w b t y s) (t' : Bool) (y' s' : Int) : Res (w.setRow b (res3 t' y' s')) b t' y' s' := setRow_heap w b _ _ 36 _ h
theorem Res.take {w : World} {b : Nat} {t : Bool} {y s : Int} (h : Res w b t y s) (t' : Bool) : Res (w.setCell ⟨b, 0, none⟩ (.bool t')) b t' y s := heap_setCell_same w b 0 _ _ (.bool t') h
theorem Res.set3 {w : World} {b : Nat} {t : Bool} {y s : Int} (h : Res w b t y s) (t' : Bool) (y' s' : Int) : Res (((w.setCell ⟨b, 0, none⟩ (.bool t')).setCell ⟨b, 1, none⟩ (.int .i64 y')).setCell ⟨b, 2, none⟩ (.int .i64 s')) b t' y' s' := by
  have h1 := heap_setCell_same w b 0 _ _ (.bool t') h
  have h2 := heap_setCell_same _ b 1 _ _ (.int .i64 y') h1
  exact heap_setCell_same _ b 2 _ _ (.int .i64 s') h2
open Go in
/-- The results of a function that gives three of memory. -/
theorem results_rows3 {P : Program} {fn : Func} {p q u : Tmp} {ty ty' ty2 : TypeId} (h : fn.results = #[.cell p ty, .cell q ty', .cell u ty2]) (tmps : Array Value) (w : World) (g g' g2 : Nat) (t t' t2 : TypeId) (cs cs' cs2 : Array Value) (fr fr' fr2 : Nat × Nat) (d d' d2 : TypeDesc)
    (hp : tmps.getD p undef = .pointer (some ⟨g, 0, none⟩)) (hg : w.heap[g]? = some (.cells cs t fr))
    (hu : P.underlying ty = some d) (hd : (match d with | .struct _ | .array _ _ => true | _ => false) = true) (hi : (P.info? ty).map (·.size) = some cs.size)
    (hp' : tmps.getD q undef = .pointer (some ⟨g', 0, none⟩)) (hg' : w.heap[g']? = some (.cells cs' t' fr'))
    (hu' : P.underlying ty' = some d') (hd' : (match d' with | .struct _ | .array _ _ => true | _ => false) = true) (hi' : (P.info? ty').map (·.size) = some cs'.size)
    (hp2 : tmps.getD u undef = .pointer (some ⟨g2, 0, none⟩)) (hg2 : w.heap[g2]? = some (.cells cs2 t2 fr2))
    (hu2 : P.underlying ty2 = some d2) (hd2 : (match d2 with | .struct _ | .array _ _ => true | _ => false) = true) (hi2 : (P.info? ty2).map (·.size) = some cs2.size) :
    (results fn tmps).run P w = .ok (.tuple #[.agg cs, .agg cs', .agg cs2]) w := by
  have e1 : tmps[p]?.getD undef = .pointer (some ⟨g, 0, none⟩) := by simpa using hp
  have e2 : tmps[q]?.getD undef = .pointer (some ⟨g', 0, none⟩) := by simpa using hp'
  have e3 : tmps[u]?.getD undef = .pointer (some ⟨g2, 0, none⟩) := by simpa using hp2
  simp [results, h, e1, e2, e3, asAddr, run_loadVar_row w g t ty cs fr d hg hu hd hi, run_loadVar_row w g' t' ty' cs' fr' d' hg' hu' hd' hi', run_loadVar_row w g2 t2 ty2 cs2 fr2 d2 hg2 hu2 hd2 hi2]
open Go in
theorem wp_of_val {P : Program} {o : Oper} {a : Act} {w : World} {v : Value} {K : Act → World → Prop} {Q : Exit → Act → World → Prop} (hy : (execOp a.eval o).run P w = .ok (.value v) w) (h : K (a.put o.dst v) w) : Oper.wp P o a w K Q := by
  unfold Oper.wp
  rw [hy]
  exact h
/-- What One reckons with, and what it tells. O: the row, then Y, R, Gate. -/
def foY (O : Nat → Int) : Int := satV (O 24)
def foS (P O : Nat → Int) : Int := updS (condF P) O (O 25)
def foL (P O : Nat → Int) : Bool := likB (foY O) (foS P O) (O 26)
def foH (S P O : Nat → Int) : Bool := keepH S || condH P || satH (O 24) || lkH (condF P) O (O 25)
def foG (P O : Nat → Int) : Nat → Int := gnF (updG (condF P) O (O 25)) (foY O) 24
def foA (S P O : Nat → Int) : Nat → Int := addNF (keepF S) (foG P O) 1
def foQ (P O : Nat → Int) : Nat → Int := updP (condF P) O (O 25)
def foTH (S P O : Nat → Int) : Bool := foH S P O || updH (condF P) O (O 25) || orB (gnB (updG (condF P) O (O 25)) (foY O)) 24 || addNH (keepF S) (foG P O) 1
structure FoR (c : Addr) (h : Bool) (S P O : Nat → Int) (w wr : World) : Prop where
  upd : Upd c h w wr
  s : Blk wr w.heap.size 23 24 S
  p : Blk wr (w.heap.size + 1) 26 300 P
  o : Blk wr (w.heap.size + 1 + 1) 41 27 O
  r0 : Blk wr (w.heap.size + 1 + 1 + 1) 23 24 (fun _ => 0)
  r1 : Blk wr (w.heap.size + 1 + 1 + 1 + 1) 26 300 (fun _ => 0)
  r2 : Res wr (w.heap.size + 1 + 1 + 1 + 1 + 1) false 0 0
theorem FoR.upd' {c : Addr} {h h' : Bool} {S P O : Nat → Int} {w wr w' : World} (r : FoR c h S P O w wr) (hc : c.block < w.heap.size) (u : Upd c h' wr w') : FoR c h' S P O w w' :=
  ⟨r.upd.trans u, r.s.upd u (by omega), r.p.upd u (by omega), r.o.upd u (by omega), r.r0.upd u (by omega), r.r1.upd u (by omega), r.r2.upd u (by omega)⟩
theorem FoR.down {c : Addr} {h : Bool} {S P O : Nat → Int} {w wr w' : World} (r : FoR c h S P O w wr) (u : Below wr.heap.size wr w') : FoR c h S P O w w' :=
  ⟨r.upd.then u, r.s.below u, r.p.below u, r.o.below u, r.r0.below u, r.r1.below u, r.r2.below u⟩
theorem FoR.drew {c : Addr} {h : Bool} {S P O : Nat → Int} {w wr : World} (r : FoR c h S P O w wr) : FoR c h S P O w wr.drew := ⟨r.upd.drew, r.s, r.p, r.o, r.r0, r.r1, r.r2⟩
theorem FoR.rowS {c : Addr} {h : Bool} {S P O : Nat → Int} {w wr : World} (r : FoR c h S P O w wr) (F : Nat → Int) : FoR c h F P O w (wr.setRow w.heap.size (arrv 24 F)) :=
  ⟨r.upd.then' (below_row (Below.refl _ _) (Nat.le_refl _) _), r.s.setRow F, r.p.setRow_other _ (by omega), r.o.setRow_other _ (by omega), r.r0.setRow_other _ (by omega), r.r1.setRow_other _ (by omega), r.r2.row _ (by omega)⟩
theorem FoR.rowP {c : Addr} {h : Bool} {S P O : Nat → Int} {w wr : World} (r : FoR c h S P O w wr) (F : Nat → Int) : FoR c h S F O w (wr.setRow (w.heap.size + 1) (arrv 300 F)) :=
  ⟨r.upd.then' (below_row (Below.refl _ _) (by omega) _), r.s.setRow_other _ (by omega), r.p.setRow F, r.o.setRow_other _ (by omega), r.r0.setRow_other _ (by omega), r.r1.setRow_other _ (by omega), r.r2.row _ (by omega)⟩
end Go.Proofs.Ytpbgglkopfjagaa
/- fuse.One (2): the walk. -/
namespace Go.Proofs.Ytpbgglkopfjagaa
open Go.RowKit
set_option maxRecDepth 100000
theorem fo_start (c : Addr) (h : Bool) (S P O : Nat → Int) (w : World) (hc : w.cell? c = some (.bool h)) : FoR c h S P O w ((((((w.alloc (.cells (arrv 24 S) 23)).alloc (.cells (arrv 300 P) 26)).alloc (.cells (arrv 27 O) 41)).alloc (.cells #[.int .i64 0, .int .i64 0, .int .i64 0, .int .i64 0, .int .i64 0, .int .i64 0, .int .i64 0, .int .i64 0, .int .i64 0, .int .i64 0, .int .i64 0, .int .i64 0, .int .i64 0, .int .i64 0, .int .i64 0, .int .i64 0, .int .i64 0, .int .i64 0, .int .i64 0, .int .i64 0, .int .i64 0, .int .i64 0, .int .i64 0, .int .i64 0] 23)).alloc (.cells Try.zeroCells26 26)).alloc (.cells #[.bool false, .int .i64 0, .int .i64 0] 36)) := by
  rw [zvec24, zcov]
  have h3 := blk_new3 w (.cells (arrv 24 S) 23) (.cells (arrv 300 P) 26) (.cells (arrv 27 O) 41) 23 24 (fun _ => 0)
  have h4 := Blk.new ((((w.alloc (.cells (arrv 24 S) 23)).alloc (.cells (arrv 300 P) 26)).alloc (.cells (arrv 27 O) 41)).alloc (.cells (arrv 24 (fun _ => 0)) 23)) 26 300 (fun _ => 0)
  rw [show ((((w.alloc (.cells (arrv 24 S) 23)).alloc (.cells (arrv 300 P) 26)).alloc (.cells (arrv 27 O) 41)).alloc (.cells (arrv 24 (fun _ => 0)) 23)).heap.size = w.heap.size + 1 + 1 + 1 + 1 from by simp] at h4
  have h5 := Res.new (((((w.alloc (.cells (arrv 24 S) 23)).alloc (.cells (arrv 300 P) 26)).alloc (.cells (arrv 27 O) 41)).alloc (.cells (arrv 24 (fun _ => 0)) 23)).alloc (.cells (arrv 300 (fun _ => 0)) 26)) false 0 0
  rw [show (((((w.alloc (.cells (arrv 24 S) 23)).alloc (.cells (arrv 300 P) 26)).alloc (.cells (arrv 27 O) 41)).alloc (.cells (arrv 24 (fun _ => 0)) 23)).alloc (.cells (arrv 300 (fun _ => 0)) 26)).heap.size = w.heap.size + 1 + 1 + 1 + 1 + 1 from by simp] at h5
  exact ⟨Upd.then (Upd.refl hc) (by (repeat (first | with_reducible exact Below.refl _ _ | with_reducible apply Below.drew | (with_reducible refine below_drewN ?_ _) | (with_reducible refine Below.alloc ?_ (by (try simp) <;> omega) _) | (with_reducible refine Below.setCell ?_ (by (try simp) <;> omega) _)))), ((((Blk.new w _ 24 _).alloc _).alloc _).alloc _).alloc _ |>.alloc _, (((Blk.new1 w _ _ 300 _).alloc _).alloc _).alloc _ |>.alloc _, ((blk_new2 w _ _ _ 27 _).alloc _).alloc _ |>.alloc _, (h3.alloc _).alloc _, h4.alloc _, h5⟩
set_option maxHeartbeats 4000000 in
theorem fuone_no (c : Addr) (h : Bool) (S P O : Nat → Int) (w : World) (hc : w.cell? c = some (.bool h)) (hf : w.frozen? c = false) (hO : -9223372036854775808 ≤ O 26 ∧ O 26 ≤ 9223372036854775807) (hL : foL P O = false) :
    Calls Try.prog 7 #[.pointer (some c), .agg (arrv 24 S), .agg (arrv 300 P), .agg (arrv 27 O)] w fun e w' =>
      e = .returned (.tuple #[.agg (arrv 24 (keepF S)), .agg (arrv 300 (condF P)), .agg (res3 false (foY O) (foS P O))]) ∧ Upd c (h || foH S P O) w w' := by
  have hcb := World.block_lt_of_cell? w c hc
  have R0 := fo_start c h S P O w hc
  have HC := Lib.hid hc
  have HF := Lib.hid hf
  have HL := Lib.hid hL
  have HO := Lib.hid hO
  clear hc hf hL hO
  go_enter Try.func7, Try.ntmps7
  go_upto_region 1 with fail
  generalize ((((((w.alloc (.cells (arrv 24 S) 23)).alloc (.cells (arrv 300 P) 26)).alloc (.cells (arrv 27 O) 41)).alloc (.cells #[.int .i64 0, .int .i64 0, .int .i64 0, .int .i64 0, .int .i64 0, .int .i64 0, .int .i64 0, .int .i64 0, .int .i64 0, .int .i64 0, .int .i64 0, .int .i64 0, .int .i64 0, .int .i64 0, .int .i64 0, .int .i64 0, .int .i64 0, .int .i64 0, .int .i64 0, .int .i64 0, .int .i64 0, .int .i64 0, .int .i64 0, .int .i64 0] 23)).alloc (.cells Try.zeroCells26 26)).alloc (.cells #[.bool false, .int .i64 0, .int .i64 0] 36)) = W0 at *
  have HS := Lib.hid R0.drew
  clear R0
  go_cut [] from 16 to 21 (fun wx => Hid (FoR c (h || keepH S || condH P) (keepF S) (condF P) O w wx))
  case first =>
    refine wp_region_M (fun w' => True) 7 (by kernel_rfl) ?_ (fun hHeld => ?_)
    · trivial
    refine wpAnyM_take 0 (v := ?_) rfl (by kernel_rfl) (fun _ _ _ h => h) (Or.inl ⟨by rfl, ?_⟩) (by assumption) ?_
    rotate_left
    · (intro wx hSw; (try dsimp only at hSw); go_simp; (try with_reducible rfl))
    (try simp only [Act.put, nA, nB, nC])
    refine wpAnyM_take 3 (v := ?_) rfl (by kernel_rfl) (fun _ _ _ h => h) (Or.inl ⟨by rfl, ?_⟩) (by assumption) ?_
    rotate_left
    · (intro wx hSw; (try dsimp only at hSw); go_simp; (try with_reducible rfl))
    (try simp only [Act.put, nA, nB, nC])
    refine wpAnyM_twoS 1 4 rfl rfl (by kernel_rfl) (fun K hK => ?_) (fun K hK => ?_)
    · refine if_pos_of (by rfl) (wp_of_val (run_load_row 23 (.tmp 5) (by rfl) w.heap.size (by rfl) _ _ _ _ HS.out.s Try.underlying23 rfl (ist.trans (by rw [arrv_size]))) ?_); simp only [Act.put, List.setIfInBounds_toArray, List.set_cons_zero, List.set_cons_succ]
      clear hHeld
      refine hK.out _ _ ?_ (fun hHeld => ?_)
      · trivial
      clear hK K
      (try simp only [Act.put, nA, nB, nC])
      refine wpAnyM_twoS 2 4 rfl rfl (by kernel_rfl) (fun K hK => ?_) (fun K hK => ?_)
      · go_simp
        (refine (keep_any c h S _ (HS.out.upd.cellc HC.out) ((HS.out.upd.frozen hcb).trans HF.out)).mono ?_); rintro e w1 ⟨rfl, hu1⟩; have HS2 := Lib.hid (HS.out.upd' hcb hu1); clear HS; have HS := HS2; clear HS2 hu1
        (try dsimp only)
        (try simp only [Act.put, nA, nB, nC])
        clear hHeld
        refine hK.out _ _ ?_ (fun hHeld => ?_)
        · trivial
        clear hK K
        (try simp only [Act.put, nA, nB, nC])
        refine wpAnyM_oneS 4 rfl (by kernel_rfl) (fun K hK => ?_)
        refine if_pos_of (by rfl) (wp_of_val (run_load_row 26 (.tmp 6) (by rfl) (w.heap.size + 1) (by rfl) _ _ _ _ HS.out.p Try.underlying26 rfl (icov.trans (by rw [arrv_size]))) ?_); simp only [Act.put, List.setIfInBounds_toArray, List.set_cons_zero, List.set_cons_succ]
        clear hHeld
        refine hK.out _ _ ?_ (fun hHeld => ?_)
        · trivial
        clear hK K
        (try simp only [Act.put, nA, nB, nC])
        refine wpAnyM_oneS 5 rfl (by kernel_rfl) (fun K hK => ?_)
        go_simp
        (refine (cond_any c _ P _ (HS.out.upd.cellc HC.out) ((HS.out.upd.frozen hcb).trans HF.out)).mono ?_); rintro e w2 ⟨rfl, hu2⟩; have HS2 := Lib.hid (HS.out.upd' hcb hu2); clear HS; have HS := HS2; clear HS2 hu2; have B6 := HS.out.s; have B7 := HS.out.p
        (try dsimp only)
        (try simp only [Act.put, nA, nB, nC])
        clear hHeld
        refine hK.out _ _ ?_ (fun hHeld => ?_)
        · trivial
        clear hK K
        (try simp only [Act.put, nA, nB, nC])
        refine wpAnyM_oneS 6 rfl (by kernel_rfl) (fun K hK => ?_)
        go_simp; rw [if_pos (arrv_size _ _), run_storeCells_row _ B6]; go_simp; have HS2 := Lib.hid (HS.out.rowS (keepF S)); clear HS; have HS := HS2; clear HS2 B6 B7; have B7 := HS.out.p
        clear hHeld
        refine hK.out _ _ ?_ (fun hHeld => ?_)
        · trivial
        clear hK K
        (try simp only [Act.put, nA, nB, nC])
        refine wpAnyM_one 7 rfl (by kernel_rfl) (fun K hK => ?_)
        go_simp; rw [if_pos (arrv_size _ _), run_storeCells_row _ B7]; go_simp; have HS2 := Lib.hid (HS.out.rowP (condF P)); clear HS; have HS := HS2; clear HS2 B7
        refine hK.out _ _ (.inl (by kernel_rfl)) (fun _ => ?_)
        clear hK K
        (try simp only [Act.put, nA, nB, nC])
        refine wpAnyM_done (by kernel_rfl) ?_ _
        (go_wp2_with fail; go_meet; exact HS)
      · refine if_pos_of (by rfl) (wp_of_val (run_load_row 26 (.tmp 6) (by rfl) (w.heap.size + 1) (by rfl) _ _ _ _ HS.out.p Try.underlying26 rfl (icov.trans (by rw [arrv_size]))) ?_); simp only [Act.put, List.setIfInBounds_toArray, List.set_cons_zero, List.set_cons_succ]
        clear hHeld
        refine hK.out _ _ ?_ (fun hHeld => ?_)
        · trivial
        clear hK K
        (try simp only [Act.put, nA, nB, nC])
        refine wpAnyM_oneS 2 rfl (by kernel_rfl) (fun K hK => ?_)
        go_simp
        (refine (keep_any c h S _ (HS.out.upd.cellc HC.out) ((HS.out.upd.frozen hcb).trans HF.out)).mono ?_); rintro e w1 ⟨rfl, hu1⟩; have HS2 := Lib.hid (HS.out.upd' hcb hu1); clear HS; have HS := HS2; clear HS2 hu1
        (try dsimp only)
        (try simp only [Act.put, nA, nB, nC])
        clear hHeld
        refine hK.out _ _ ?_ (fun hHeld => ?_)
        · trivial
        clear hK K
        (try simp only [Act.put, nA, nB, nC])
        refine wpAnyM_oneS 5 rfl (by kernel_rfl) (fun K hK => ?_)
        go_simp
        (refine (cond_any c _ P _ (HS.out.upd.cellc HC.out) ((HS.out.upd.frozen hcb).trans HF.out)).mono ?_); rintro e w2 ⟨rfl, hu2⟩; have HS2 := Lib.hid (HS.out.upd' hcb hu2); clear HS; have HS := HS2; clear HS2 hu2; have B6 := HS.out.s; have B7 := HS.out.p
        (try dsimp only)
        (try simp only [Act.put, nA, nB, nC])
        clear hHeld
        refine hK.out _ _ ?_ (fun hHeld => ?_)
        · trivial
        clear hK K
        (try simp only [Act.put, nA, nB, nC])
        refine wpAnyM_oneS 6 rfl (by kernel_rfl) (fun K hK => ?_)
        go_simp; rw [if_pos (arrv_size _ _), run_storeCells_row _ B6]; go_simp; have HS2 := Lib.hid (HS.out.rowS (keepF S)); clear HS; have HS := HS2; clear HS2 B6 B7; have B7 := HS.out.p
        clear hHeld
        refine hK.out _ _ ?_ (fun hHeld => ?_)
        · trivial
        clear hK K
        (try simp only [Act.put, nA, nB, nC])
        refine wpAnyM_one 7 rfl (by kernel_rfl) (fun K hK => ?_)
        go_simp; rw [if_pos (arrv_size _ _), run_storeCells_row _ B7]; go_simp; have HS2 := Lib.hid (HS.out.rowP (condF P)); clear HS; have HS := HS2; clear HS2 B7
        refine hK.out _ _ (.inl (by kernel_rfl)) (fun _ => ?_)
        clear hK K
        (try simp only [Act.put, nA, nB, nC])
        refine wpAnyM_done (by kernel_rfl) ?_ _
        (go_wp2_with fail; go_meet; exact HS)
    · refine if_pos_of (by rfl) (wp_of_val (run_load_row 26 (.tmp 6) (by rfl) (w.heap.size + 1) (by rfl) _ _ _ _ HS.out.p Try.underlying26 rfl (icov.trans (by rw [arrv_size]))) ?_); simp only [Act.put, List.setIfInBounds_toArray, List.set_cons_zero, List.set_cons_succ]
      clear hHeld
      refine hK.out _ _ ?_ (fun hHeld => ?_)
      · trivial
      clear hK K
      (try simp only [Act.put, nA, nB, nC])
      refine wpAnyM_oneS 1 rfl (by kernel_rfl) (fun K hK => ?_)
      refine if_pos_of (by rfl) (wp_of_val (run_load_row 23 (.tmp 5) (by rfl) w.heap.size (by rfl) _ _ _ _ HS.out.s Try.underlying23 rfl (ist.trans (by rw [arrv_size]))) ?_); simp only [Act.put, List.setIfInBounds_toArray, List.set_cons_zero, List.set_cons_succ]
      clear hHeld
      refine hK.out _ _ ?_ (fun hHeld => ?_)
      · trivial
      clear hK K
      (try simp only [Act.put, nA, nB, nC])
      refine wpAnyM_oneS 2 rfl (by kernel_rfl) (fun K hK => ?_)
      go_simp
      (refine (keep_any c h S _ (HS.out.upd.cellc HC.out) ((HS.out.upd.frozen hcb).trans HF.out)).mono ?_); rintro e w1 ⟨rfl, hu1⟩; have HS2 := Lib.hid (HS.out.upd' hcb hu1); clear HS; have HS := HS2; clear HS2 hu1
      (try dsimp only)
      (try simp only [Act.put, nA, nB, nC])
      clear hHeld
      refine hK.out _ _ ?_ (fun hHeld => ?_)
      · trivial
      clear hK K
      (try simp only [Act.put, nA, nB, nC])
      refine wpAnyM_oneS 5 rfl (by kernel_rfl) (fun K hK => ?_)
      go_simp
      (refine (cond_any c _ P _ (HS.out.upd.cellc HC.out) ((HS.out.upd.frozen hcb).trans HF.out)).mono ?_); rintro e w2 ⟨rfl, hu2⟩; have HS2 := Lib.hid (HS.out.upd' hcb hu2); clear HS; have HS := HS2; clear HS2 hu2; have B6 := HS.out.s; have B7 := HS.out.p
      (try dsimp only)
      (try simp only [Act.put, nA, nB, nC])
      clear hHeld
      refine hK.out _ _ ?_ (fun hHeld => ?_)
      · trivial
      clear hK K
      (try simp only [Act.put, nA, nB, nC])
      refine wpAnyM_oneS 6 rfl (by kernel_rfl) (fun K hK => ?_)
      go_simp; rw [if_pos (arrv_size _ _), run_storeCells_row _ B6]; go_simp; have HS2 := Lib.hid (HS.out.rowS (keepF S)); clear HS; have HS := HS2; clear HS2 B6 B7; have B7 := HS.out.p
      clear hHeld
      refine hK.out _ _ ?_ (fun hHeld => ?_)
      · trivial
      clear hK K
      (try simp only [Act.put, nA, nB, nC])
      refine wpAnyM_one 7 rfl (by kernel_rfl) (fun K hK => ?_)
      go_simp; rw [if_pos (arrv_size _ _), run_storeCells_row _ B7]; go_simp; have HS2 := Lib.hid (HS.out.rowP (condF P)); clear HS; have HS := HS2; clear HS2 B7
      refine hK.out _ _ (.inl (by kernel_rfl)) (fun _ => ?_)
      clear hK K
      (try simp only [Act.put, nA, nB, nC])
      refine wpAnyM_done (by kernel_rfl) ?_ _
      (go_wp2_with fail; go_meet; exact HS)
  case rest =>
    clear HS
    have HS := hcut
    clear hcut
    rename World => wx
    have o24 := HS.out.o.cell (i := 24) (by decide)
    have SA := Lib.hid (sat_any c _ (O 24) _ (HS.out.upd.cellc HC.out) ((HS.out.upd.frozen hcb).trans HF.out))
    go_upto_region 3 with (go_at_call 20; (refine SA.out.mono ?_); rintro e w3 ⟨rfl, hw3⟩; have U3 := (Upd.set c (h || keepH S || condH P || satH (O 24)) wx).then (by rw [hw3]; exact Below.refl _ _); have H3 := Lib.hid (HS.out.upd' hcb U3); clear U3 hw3)
    obtain ⟨PP, hPP⟩ : ∃ x, condF P = x := ⟨_, rfl⟩
    obtain ⟨KK, hKK⟩ : ∃ x, keepF S = x := ⟨_, rfl⟩
    obtain ⟨YV, hYV⟩ : ∃ x, satV (O 24) = x := ⟨_, rfl⟩
    obtain ⟨SV, hSV⟩ : ∃ x, updS PP O (O 25) = x := ⟨_, rfl⟩
    obtain ⟨H1, hH1⟩ : ∃ x, (h || keepH S || condH P || satH (O 24)) = x := ⟨_, rfl⟩
    obtain ⟨H2, hH2⟩ : ∃ x, (H1 || lkH PP O (O 25)) = x := ⟨_, rfl⟩
    have E : Hid (foY O = YV ∧ foS P O = SV ∧ keepF S = KK ∧ condF P = PP ∧ (h || foH S P O) = H2) := by
      refine Lib.hid ⟨hYV, by unfold foS; rw [hPP]; exact hSV, hKK, hPP, ?_⟩
      unfold foH; rw [← hH2, ← hH1, hPP]; simp only [Bool.or_assoc]
    have LK : Hid (likB YV SV (O 26) = false) := by
      have := HL.out
      unfold foL at this
      rw [E.out.1, E.out.2.1] at this
      exact Lib.hid this
    rw [hKK, hPP, hH1] at H3
    rw [hYV]
    have P3 := H3.out.p
    have O3 := H3.out.o
    have o25 := O3.cell (i := 25) (by decide)
    have IN := innov_any c H1 PP O (O 25) w3 (H3.out.upd.cellc HC.out) ((H3.out.upd.frozen hcb).trans HF.out)
    rw [hSV, hH2] at IN
    have IN := Lib.hid IN
    clear hPP hKK hYV hSV hH1 hH2 HS SA o24 HL
    go_upto_region 4 with (first | (refine wpList_load_row rfl 26 _ rfl (w.heap.size + 1) rfl 26 _ (0, 0) _ (P3) Try.underlying26 rfl (icov.trans (by rw [arrv_size])) ?_) | (refine wpList_load_sub rfl 39 _ rfl (w.heap.size + 1 + 1) 0 24 rfl O3 (by decide) _ Try.underlying39 rfl irow ?_; rw [show (fun i => O (0 + i)) = O from by funext i; rw [Nat.zero_add]]) | (go_at_call 21; (refine IN.out.mono ?_); rintro e w4 ⟨rfl, hu4⟩; have H4 := Lib.hid (H3.out.upd' hcb hu4); clear hu4))
    have H5 : Hid (FoR c H2 KK PP O w (w4.alloc (.cells #[.bool false, .int .i64 YV, .int .i64 SV] 36))) := Lib.hid (H4.out.down ((Below.refl w4.heap.size w4).alloc (Nat.le_refl _) _))
    have Q5 : Hid (Res (w4.alloc (.cells #[.bool false, .int .i64 YV, .int .i64 SV] 36)) w4.heap.size false YV SV) := Lib.hid (Res.new w4 false YV SV)
    have hrb : w.heap.size + 1 + 1 + 1 + 1 + 1 < w4.heap.size := H4.out.r2.lt
    have HRB : Hid (∃ rb, w4.heap.size = rb) := Lib.hid ⟨_, rfl⟩
    obtain ⟨rb, hrb2⟩ := HRB.out
    rw [hrb2] at Q5 hrb ⊢
    generalize w4.alloc (.cells #[.bool false, .int .i64 YV, .int .i64 SV] 36) = w5 at *
    clear hrb2 HRB H4 H3 P3 O3 o25 IN
    obtain ⟨⟨q0, q1, q2⟩, _⟩ := Q5.out.c
    have o26 := H5.out.o.cell (i := 26) (by decide)
    have LI := likely_any YV SV (O 26) w5 HO.out.1 HO.out.2
    rw [LK.out] at LI
    have LI := Lib.hid LI
    go_upto_region 5 with (go_at_call 14; (refine LI.out.mono ?_); rintro e w6 ⟨rfl, hb6⟩; have H6 := Lib.hid (H5.out.down hb6); have Q6 := Lib.hid (Q5.out.below hb6); clear hb6)
    clear LI o26 q0 q1 q2 H5 Q5
    obtain ⟨⟨s0, s1, s2⟩, g0, g1, g2⟩ := H6.out.r2.c
    have S6 := H6.out.r0
    refine wp_region_M (fun w' => Blk w' w.heap.size 23 24 KK ∧ Blk w' (w.heap.size + 1) 26 300 PP ∧ Res w' rb false YV SV) 5 (by kernel_rfl) ?_ (fun hHeld => ?_)
    · exact ⟨H6.out.s.drew, H6.out.p.drew, Q6.out⟩
    refine wpAnyM_take 0 (v := ?_) rfl (by kernel_rfl) (fun _ _ _ h => h) (Or.inl ⟨by rfl, ?_⟩) (by assumption) ?_
    rotate_left
    · (intro wx hSw; refine Eq.trans (run_load_row 23 (.tmp 5) (by rfl) (w.heap.size) (by rfl) _ _ _ _ (hSw.1) Try.underlying23 rfl (ist.trans (by rw [arrv_size]))) ?_; with_reducible rfl)
    (try simp only [Act.put, nA, nB, nC])
    refine wpAnyM_take 1 (v := ?_) rfl (by kernel_rfl) (fun _ _ _ h => h) (Or.inl ⟨by rfl, ?_⟩) (by assumption) ?_
    rotate_left
    · (intro wx hSw; refine Eq.trans (run_load_row 26 (.tmp 6) (by rfl) (w.heap.size + 1) (by rfl) _ _ _ _ (hSw.2.1) Try.underlying26 rfl (icov.trans (by rw [arrv_size]))) ?_; with_reducible rfl)
    (try simp only [Act.put, nA, nB, nC])
    refine wpAnyM_take 2 (v := ?_) rfl (by kernel_rfl) (fun _ _ _ h => h) (Or.inl ⟨by rfl, ?_⟩) (by assumption) ?_
    rotate_left
    · (intro wx hSw; obtain ⟨⟨c0, c1, c2⟩, _⟩ := hSw.2.2.c; go_simp; (try with_reducible rfl))
    (try simp only [Act.put, nA, nB, nC])
    refine wpAnyM_oneS 3 rfl (by kernel_rfl) (fun K hK => ?_)
    go_simp; rw [if_pos (arrv_size _ _), run_storeCells_row _ S6.drew]; go_simp; have T6 : Blk (w6.drew.setRow (w.heap.size + 1 + 1 + 1) (arrv 24 KK)) (w.heap.size + 1 + 1 + 1 + 1) 26 300 (fun _ => 0) := H6.out.r1.drew.setRow_other _ (by omega)
    clear hHeld
    refine hK.out _ _ ?_ (fun hHeld => ?_)
    · exact ⟨H6.out.s.drew.setRow_other _ (by omega), H6.out.p.drew.setRow_other _ (by omega), Q6.out.row _ (by omega)⟩
    clear hK K
    (try simp only [Act.put, nA, nB, nC])
    refine wpAnyM_oneS 4 rfl (by kernel_rfl) (fun K hK => ?_)
    go_simp; rw [if_pos (arrv_size _ _), run_storeCells_row _ T6]; go_simp; have V6 : Res ((w6.drew.setRow (w.heap.size + 1 + 1 + 1) (arrv 24 KK)).setRow (w.heap.size + 1 + 1 + 1 + 1) (arrv 300 PP)) (w.heap.size + 1 + 1 + 1 + 1 + 1) false 0 0 := (H6.out.r2.row _ (by omega)).row _ (by omega); obtain ⟨⟨v0, v1, v2⟩, y0, y1, y2⟩ := V6.c
    clear hHeld
    refine hK.out _ _ ?_ (fun hHeld => ?_)
    · exact ⟨(H6.out.s.drew.setRow_other _ (by omega)).setRow_other _ (by omega), (H6.out.p.drew.setRow_other _ (by omega)).setRow_other _ (by omega), (Q6.out.row _ (by omega)).row _ (by omega)⟩
    clear hK K
    (try simp only [Act.put, nA, nB, nC])
    refine wpAnyM_one 5 rfl (by kernel_rfl) (fun K hK => ?_)
    go_simp
    refine hK.out _ _ (.inl (by kernel_rfl)) (fun _ => ?_)
    clear hK K
    (try simp only [Act.put, nA, nB, nC])
    refine wpAnyM_done (by kernel_rfl) ?_ _
    have X0 : Blk ((w6.drew.setRow (w.heap.size + 1 + 1 + 1) (arrv 24 KK)).setRow (w.heap.size + 1 + 1 + 1 + 1) (arrv 300 PP)) (w.heap.size + 1 + 1 + 1) 23 24 KK := (S6.drew.setRow KK).setRow_other _ (by omega)
    have X1 : Blk ((w6.drew.setRow (w.heap.size + 1 + 1 + 1) (arrv 24 KK)).setRow (w.heap.size + 1 + 1 + 1 + 1) (arrv 300 PP)) (w.heap.size + 1 + 1 + 1 + 1) 26 300 PP := T6.setRow PP
    have XU : Upd c H2 w ((w6.drew.setRow (w.heap.size + 1 + 1 + 1) (arrv 24 KK)).setRow (w.heap.size + 1 + 1 + 1 + 1) (arrv 300 PP)) := H6.out.upd.drew.then' (below_row (below_row (Below.refl _ _) (by omega) _) (by omega) _)
    generalize (w6.drew.setRow (w.heap.size + 1 + 1 + 1) (arrv 24 KK)).setRow (w.heap.size + 1 + 1 + 1 + 1) (arrv 300 PP) = w7 at *
    have Y0 := ((X0.other (a := ⟨w.heap.size + 1 + 1 + 1 + 1 + 1, 0, none⟩) (by simp) (.bool false)).other (a := ⟨w.heap.size + 1 + 1 + 1 + 1 + 1, 1, none⟩) (by simp) (.int .i64 YV)).other (a := ⟨w.heap.size + 1 + 1 + 1 + 1 + 1, 2, none⟩) (by simp) (.int .i64 SV)
    have Y1 := ((X1.other (a := ⟨w.heap.size + 1 + 1 + 1 + 1 + 1, 0, none⟩) (by simp) (.bool false)).other (a := ⟨w.heap.size + 1 + 1 + 1 + 1 + 1, 1, none⟩) (by simp) (.int .i64 YV)).other (a := ⟨w.heap.size + 1 + 1 + 1 + 1 + 1, 2, none⟩) (by simp) (.int .i64 SV)
    have Y2 := V6.set3 false YV SV
    have YU := ((XU.setCell (p := ⟨w.heap.size + 1 + 1 + 1 + 1 + 1, 0, none⟩) (by simp; omega) (.bool false)).setCell (p := ⟨w.heap.size + 1 + 1 + 1 + 1 + 1, 1, none⟩) (by simp; omega) (.int .i64 YV)).setCell (p := ⟨w.heap.size + 1 + 1 + 1 + 1 + 1, 2, none⟩) (by simp; omega) (.int .i64 SV)
    go_wp2_with fail
    refine bodyPost_ret_by (results_rows3 Try.results7 _ _ (w.heap.size + 1 + 1 + 1) (w.heap.size + 1 + 1 + 1 + 1) (w.heap.size + 1 + 1 + 1 + 1 + 1) 23 26 36 (arrv 24 KK) (arrv 300 PP) (res3 false YV SV) (0, 0) (0, 0) (0, 0) _ _ _ rfl Y0 Try.underlying23 rfl (ist.trans (by rw [arrv_size])) rfl Y1 Try.underlying26 rfl (icov.trans (by rw [arrv_size])) rfl Y2 Try.underlying36 rfl (ire.trans rfl)) rfl ⟨?_, ?_⟩
    · rw [E.out.1, E.out.2.1, E.out.2.2.1, E.out.2.2.2.1]
    · rw [E.out.2.2.2.2]; exact YU
end Go.Proofs.Ytpbgglkopfjagaa
/- fuse.One (3): the walk, where the number is taken. -/
namespace Go.Proofs.Ytpbgglkopfjagaa
open Go.RowKit
set_option maxRecDepth 100000
theorem FoR.other {c : Addr} {h : Bool} {S P O : Nat → Int} {w wr : World} (r : FoR c h S P O w wr) {b o : Nat} (hb : w.heap.size + 1 + 1 + 1 + 1 + 1 < b) (v : Value) : FoR c h S P O w (wr.setCell ⟨b, o, none⟩ v) :=
  ⟨r.upd.setCell (by simp; omega) _, r.s.other (by simp; omega) _, r.p.other (by simp; omega) _, r.o.other (by simp; omega) _, r.r0.other (by simp; omega) _, r.r1.other (by simp; omega) _, r.r2.other (by simp; omega) _⟩
set_option maxHeartbeats 8000000 in
theorem fuone_yes (c : Addr) (h : Bool) (S P O : Nat → Int) (w : World) (hc : w.cell? c = some (.bool h)) (hf : w.frozen? c = false) (hO : -9223372036854775808 ≤ O 26 ∧ O 26 ≤ 9223372036854775807) (hL : foL P O = true) :
    Calls Try.prog 7 #[.pointer (some c), .agg (arrv 24 S), .agg (arrv 300 P), .agg (arrv 27 O)] w fun e w' =>
      e = .returned (.tuple #[.agg (arrv 24 (foA S P O)), .agg (arrv 300 (foQ P O)), .agg (res3 true (foY O) (foS P O))]) ∧ Upd c (h || foTH S P O) w w' := by
  have hcb := World.block_lt_of_cell? w c hc
  have R0 := fo_start c h S P O w hc
  have HC := Lib.hid hc
  have HF := Lib.hid hf
  have HL := Lib.hid hL
  have HO := Lib.hid hO
  clear hc hf hL hO
  go_enter Try.func7, Try.ntmps7
  go_upto_region 1 with fail
  generalize ((((((w.alloc (.cells (arrv 24 S) 23)).alloc (.cells (arrv 300 P) 26)).alloc (.cells (arrv 27 O) 41)).alloc (.cells #[.int .i64 0, .int .i64 0, .int .i64 0, .int .i64 0, .int .i64 0, .int .i64 0, .int .i64 0, .int .i64 0, .int .i64 0, .int .i64 0, .int .i64 0, .int .i64 0, .int .i64 0, .int .i64 0, .int .i64 0, .int .i64 0, .int .i64 0, .int .i64 0, .int .i64 0, .int .i64 0, .int .i64 0, .int .i64 0, .int .i64 0, .int .i64 0] 23)).alloc (.cells Try.zeroCells26 26)).alloc (.cells #[.bool false, .int .i64 0, .int .i64 0] 36)) = W0 at *
  have HS := Lib.hid R0.drew
  clear R0
  go_cut [] from 16 to 21 (fun wx => Hid (FoR c (h || keepH S || condH P) (keepF S) (condF P) O w wx))
  case first =>
    refine wp_region_M (fun w' => True) 7 (by kernel_rfl) ?_ (fun hHeld => ?_)
    · trivial
    refine wpAnyM_take 0 (v := ?_) rfl (by kernel_rfl) (fun _ _ _ h => h) (Or.inl ⟨by rfl, ?_⟩) (by assumption) ?_
    rotate_left
    · (intro wx hSw; (try dsimp only at hSw); go_simp; (try with_reducible rfl))
    (try simp only [Act.put, nA, nB, nC])
    refine wpAnyM_take 3 (v := ?_) rfl (by kernel_rfl) (fun _ _ _ h => h) (Or.inl ⟨by rfl, ?_⟩) (by assumption) ?_
    rotate_left
    · (intro wx hSw; (try dsimp only at hSw); go_simp; (try with_reducible rfl))
    (try simp only [Act.put, nA, nB, nC])
    refine wpAnyM_twoS 1 4 rfl rfl (by kernel_rfl) (fun K hK => ?_) (fun K hK => ?_)
    · refine if_pos_of (by rfl) (wp_of_val (run_load_row 23 (.tmp 5) (by rfl) w.heap.size (by rfl) _ _ _ _ HS.out.s Try.underlying23 rfl (ist.trans (by rw [arrv_size]))) ?_); simp only [Act.put, List.setIfInBounds_toArray, List.set_cons_zero, List.set_cons_succ]
      clear hHeld
      refine hK.out _ _ ?_ (fun hHeld => ?_)
      · trivial
      clear hK K
      (try simp only [Act.put, nA, nB, nC])
      refine wpAnyM_twoS 2 4 rfl rfl (by kernel_rfl) (fun K hK => ?_) (fun K hK => ?_)
      · go_simp
        (refine (keep_any c h S _ (HS.out.upd.cellc HC.out) ((HS.out.upd.frozen hcb).trans HF.out)).mono ?_); rintro e w1 ⟨rfl, hu1⟩; have HS2 := Lib.hid (HS.out.upd' hcb hu1); clear HS; have HS := HS2; clear HS2 hu1
        (try dsimp only)
        (try simp only [Act.put, nA, nB, nC])
        clear hHeld
        refine hK.out _ _ ?_ (fun hHeld => ?_)
        · trivial
        clear hK K
        (try simp only [Act.put, nA, nB, nC])
        refine wpAnyM_oneS 4 rfl (by kernel_rfl) (fun K hK => ?_)
        refine if_pos_of (by rfl) (wp_of_val (run_load_row 26 (.tmp 6) (by rfl) (w.heap.size + 1) (by rfl) _ _ _ _ HS.out.p Try.underlying26 rfl (icov.trans (by rw [arrv_size]))) ?_); simp only [Act.put, List.setIfInBounds_toArray, List.set_cons_zero, List.set_cons_succ]
        clear hHeld
        refine hK.out _ _ ?_ (fun hHeld => ?_)
        · trivial
        clear hK K
        (try simp only [Act.put, nA, nB, nC])
        refine wpAnyM_oneS 5 rfl (by kernel_rfl) (fun K hK => ?_)
        go_simp
        (refine (cond_any c _ P _ (HS.out.upd.cellc HC.out) ((HS.out.upd.frozen hcb).trans HF.out)).mono ?_); rintro e w2 ⟨rfl, hu2⟩; have HS2 := Lib.hid (HS.out.upd' hcb hu2); clear HS; have HS := HS2; clear HS2 hu2; have B6 := HS.out.s; have B7 := HS.out.p
        (try dsimp only)
        (try simp only [Act.put, nA, nB, nC])
        clear hHeld
        refine hK.out _ _ ?_ (fun hHeld => ?_)
        · trivial
        clear hK K
        (try simp only [Act.put, nA, nB, nC])
        refine wpAnyM_oneS 6 rfl (by kernel_rfl) (fun K hK => ?_)
        go_simp; rw [if_pos (arrv_size _ _), run_storeCells_row _ B6]; go_simp; have HS2 := Lib.hid (HS.out.rowS (keepF S)); clear HS; have HS := HS2; clear HS2 B6 B7; have B7 := HS.out.p
        clear hHeld
        refine hK.out _ _ ?_ (fun hHeld => ?_)
        · trivial
        clear hK K
        (try simp only [Act.put, nA, nB, nC])
        refine wpAnyM_one 7 rfl (by kernel_rfl) (fun K hK => ?_)
        go_simp; rw [if_pos (arrv_size _ _), run_storeCells_row _ B7]; go_simp; have HS2 := Lib.hid (HS.out.rowP (condF P)); clear HS; have HS := HS2; clear HS2 B7
        refine hK.out _ _ (.inl (by kernel_rfl)) (fun _ => ?_)
        clear hK K
        (try simp only [Act.put, nA, nB, nC])
        refine wpAnyM_done (by kernel_rfl) ?_ _
        (go_wp2_with fail; go_meet; exact HS)
      · refine if_pos_of (by rfl) (wp_of_val (run_load_row 26 (.tmp 6) (by rfl) (w.heap.size + 1) (by rfl) _ _ _ _ HS.out.p Try.underlying26 rfl (icov.trans (by rw [arrv_size]))) ?_); simp only [Act.put, List.setIfInBounds_toArray, List.set_cons_zero, List.set_cons_succ]
        clear hHeld
        refine hK.out _ _ ?_ (fun hHeld => ?_)
        · trivial
        clear hK K
        (try simp only [Act.put, nA, nB, nC])
        refine wpAnyM_oneS 2 rfl (by kernel_rfl) (fun K hK => ?_)
        go_simp
        (refine (keep_any c h S _ (HS.out.upd.cellc HC.out) ((HS.out.upd.frozen hcb).trans HF.out)).mono ?_); rintro e w1 ⟨rfl, hu1⟩; have HS2 := Lib.hid (HS.out.upd' hcb hu1); clear HS; have HS := HS2; clear HS2 hu1
        (try dsimp only)
        (try simp only [Act.put, nA, nB, nC])
        clear hHeld
        refine hK.out _ _ ?_ (fun hHeld => ?_)
        · trivial
        clear hK K
        (try simp only [Act.put, nA, nB, nC])
        refine wpAnyM_oneS 5 rfl (by kernel_rfl) (fun K hK => ?_)
        go_simp
        (refine (cond_any c _ P _ (HS.out.upd.cellc HC.out) ((HS.out.upd.frozen hcb).trans HF.out)).mono ?_); rintro e w2 ⟨rfl, hu2⟩; have HS2 := Lib.hid (HS.out.upd' hcb hu2); clear HS; have HS := HS2; clear HS2 hu2; have B6 := HS.out.s; have B7 := HS.out.p
        (try dsimp only)
        (try simp only [Act.put, nA, nB, nC])
        clear hHeld
        refine hK.out _ _ ?_ (fun hHeld => ?_)
        · trivial
        clear hK K
        (try simp only [Act.put, nA, nB, nC])
        refine wpAnyM_oneS 6 rfl (by kernel_rfl) (fun K hK => ?_)
        go_simp; rw [if_pos (arrv_size _ _), run_storeCells_row _ B6]; go_simp; have HS2 := Lib.hid (HS.out.rowS (keepF S)); clear HS; have HS := HS2; clear HS2 B6 B7; have B7 := HS.out.p
        clear hHeld
        refine hK.out _ _ ?_ (fun hHeld => ?_)
        · trivial
        clear hK K
        (try simp only [Act.put, nA, nB, nC])
        refine wpAnyM_one 7 rfl (by kernel_rfl) (fun K hK => ?_)
        go_simp; rw [if_pos (arrv_size _ _), run_storeCells_row _ B7]; go_simp; have HS2 := Lib.hid (HS.out.rowP (condF P)); clear HS; have HS := HS2; clear HS2 B7
        refine hK.out _ _ (.inl (by kernel_rfl)) (fun _ => ?_)
        clear hK K
        (try simp only [Act.put, nA, nB, nC])
        refine wpAnyM_done (by kernel_rfl) ?_ _
        (go_wp2_with fail; go_meet; exact HS)
    · refine if_pos_of (by rfl) (wp_of_val (run_load_row 26 (.tmp 6) (by rfl) (w.heap.size + 1) (by rfl) _ _ _ _ HS.out.p Try.underlying26 rfl (icov.trans (by rw [arrv_size]))) ?_); simp only [Act.put, List.setIfInBounds_toArray, List.set_cons_zero, List.set_cons_succ]
      clear hHeld
      refine hK.out _ _ ?_ (fun hHeld => ?_)
      · trivial
      clear hK K
      (try simp only [Act.put, nA, nB, nC])
      refine wpAnyM_oneS 1 rfl (by kernel_rfl) (fun K hK => ?_)
      refine if_pos_of (by rfl) (wp_of_val (run_load_row 23 (.tmp 5) (by rfl) w.heap.size (by rfl) _ _ _ _ HS.out.s Try.underlying23 rfl (ist.trans (by rw [arrv_size]))) ?_); simp only [Act.put, List.setIfInBounds_toArray, List.set_cons_zero, List.set_cons_succ]
      clear hHeld
      refine hK.out _ _ ?_ (fun hHeld => ?_)
      · trivial
      clear hK K
      (try simp only [Act.put, nA, nB, nC])
      refine wpAnyM_oneS 2 rfl (by kernel_rfl) (fun K hK => ?_)
      go_simp
      (refine (keep_any c h S _ (HS.out.upd.cellc HC.out) ((HS.out.upd.frozen hcb).trans HF.out)).mono ?_); rintro e w1 ⟨rfl, hu1⟩; have HS2 := Lib.hid (HS.out.upd' hcb hu1); clear HS; have HS := HS2; clear HS2 hu1
      (try dsimp only)
      (try simp only [Act.put, nA, nB, nC])
      clear hHeld
      refine hK.out _ _ ?_ (fun hHeld => ?_)
      · trivial
      clear hK K
      (try simp only [Act.put, nA, nB, nC])
      refine wpAnyM_oneS 5 rfl (by kernel_rfl) (fun K hK => ?_)
      go_simp
      (refine (cond_any c _ P _ (HS.out.upd.cellc HC.out) ((HS.out.upd.frozen hcb).trans HF.out)).mono ?_); rintro e w2 ⟨rfl, hu2⟩; have HS2 := Lib.hid (HS.out.upd' hcb hu2); clear HS; have HS := HS2; clear HS2 hu2; have B6 := HS.out.s; have B7 := HS.out.p
      (try dsimp only)
      (try simp only [Act.put, nA, nB, nC])
      clear hHeld
      refine hK.out _ _ ?_ (fun hHeld => ?_)
      · trivial
      clear hK K
      (try simp only [Act.put, nA, nB, nC])
      refine wpAnyM_oneS 6 rfl (by kernel_rfl) (fun K hK => ?_)
      go_simp; rw [if_pos (arrv_size _ _), run_storeCells_row _ B6]; go_simp; have HS2 := Lib.hid (HS.out.rowS (keepF S)); clear HS; have HS := HS2; clear HS2 B6 B7; have B7 := HS.out.p
      clear hHeld
      refine hK.out _ _ ?_ (fun hHeld => ?_)
      · trivial
      clear hK K
      (try simp only [Act.put, nA, nB, nC])
      refine wpAnyM_one 7 rfl (by kernel_rfl) (fun K hK => ?_)
      go_simp; rw [if_pos (arrv_size _ _), run_storeCells_row _ B7]; go_simp; have HS2 := Lib.hid (HS.out.rowP (condF P)); clear HS; have HS := HS2; clear HS2 B7
      refine hK.out _ _ (.inl (by kernel_rfl)) (fun _ => ?_)
      clear hK K
      (try simp only [Act.put, nA, nB, nC])
      refine wpAnyM_done (by kernel_rfl) ?_ _
      (go_wp2_with fail; go_meet; exact HS)
  case rest =>
    clear HS
    have HS := hcut
    clear hcut
    rename World => wx
    have o24 := HS.out.o.cell (i := 24) (by decide)
    have SA := Lib.hid (sat_any c _ (O 24) _ (HS.out.upd.cellc HC.out) ((HS.out.upd.frozen hcb).trans HF.out))
    go_upto_region 3 with (go_at_call 20; (refine SA.out.mono ?_); rintro e w3 ⟨rfl, hw3⟩; have U3 := (Upd.set c (h || keepH S || condH P || satH (O 24)) wx).then (by rw [hw3]; exact Below.refl _ _); have H3 := Lib.hid (HS.out.upd' hcb U3); clear U3 hw3)
    obtain ⟨PP, hPP⟩ : ∃ x, condF P = x := ⟨_, rfl⟩
    obtain ⟨KK, hKK⟩ : ∃ x, keepF S = x := ⟨_, rfl⟩
    obtain ⟨YV, hYV⟩ : ∃ x, satV (O 24) = x := ⟨_, rfl⟩
    obtain ⟨SV, hSV⟩ : ∃ x, updS PP O (O 25) = x := ⟨_, rfl⟩
    obtain ⟨QQ, hQQ⟩ : ∃ x, updP PP O (O 25) = x := ⟨_, rfl⟩
    obtain ⟨GG, hGG⟩ : ∃ x, updG PP O (O 25) = x := ⟨_, rfl⟩
    obtain ⟨GN, hGN⟩ : ∃ x, gnF GG YV 24 = x := ⟨_, rfl⟩
    obtain ⟨AA, hAA⟩ : ∃ x, addNF KK GN 1 = x := ⟨_, rfl⟩
    obtain ⟨H1, hH1⟩ : ∃ x, (h || keepH S || condH P || satH (O 24)) = x := ⟨_, rfl⟩
    obtain ⟨H2, hH2⟩ : ∃ x, (H1 || lkH PP O (O 25)) = x := ⟨_, rfl⟩
    obtain ⟨H3', hH3⟩ : ∃ x, (H2 || updH PP O (O 25)) = x := ⟨_, rfl⟩
    obtain ⟨H4', hH4⟩ : ∃ x, (H3' || orB (gnB GG YV) 24) = x := ⟨_, rfl⟩
    obtain ⟨H5', hH5⟩ : ∃ x, (H4' || addNH KK GN 1) = x := ⟨_, rfl⟩
    have eG : foG P O = GN := by unfold foG foY; rw [hPP, hGG, hYV]; exact hGN
    have E : Hid (foY O = YV ∧ foS P O = SV ∧ foA S P O = AA ∧ foQ P O = QQ ∧ (h || foTH S P O) = H5') := by
      refine Lib.hid ⟨hYV, by unfold foS; rw [hPP]; exact hSV, by unfold foA; rw [eG, hKK]; exact hAA, by unfold foQ; rw [hPP]; exact hQQ, ?_⟩
      unfold foTH; rw [eG]; unfold foH foY; rw [← hH5, ← hH4, ← hH3, ← hH2, ← hH1, hPP, hGG, hKK, hYV]; simp only [Bool.or_assoc]
    have HQ := Lib.hid (And.intro hQQ (And.intro hGG (And.intro hGN hAA)))
    have HH := Lib.hid (And.intro hH3 (And.intro hH4 hH5))
    have HSV := Lib.hid hSV
    have LK : Hid (likB YV SV (O 26) = true) := by
      have := HL.out
      unfold foL at this
      rw [E.out.1, E.out.2.1] at this
      exact Lib.hid this
    rw [hKK, hPP, hH1] at H3
    rw [hYV]
    have P3 := H3.out.p
    have O3 := H3.out.o
    have o25 := O3.cell (i := 25) (by decide)
    have IN := innov_any c H1 PP O (O 25) w3 (H3.out.upd.cellc HC.out) ((H3.out.upd.frozen hcb).trans HF.out)
    rw [hSV, hH2] at IN
    have IN := Lib.hid IN
    clear hPP hKK hYV hSV hH1 hH2 HS SA o24 HL hQQ hGG hGN hAA hH3 hH4 hH5 eG
    go_upto_region 4 with (first | (refine wpList_load_row rfl 26 _ rfl (w.heap.size + 1) rfl 26 _ (0, 0) _ (P3) Try.underlying26 rfl (icov.trans (by rw [arrv_size])) ?_) | (refine wpList_load_sub rfl 39 _ rfl (w.heap.size + 1 + 1) 0 24 rfl O3 (by decide) _ Try.underlying39 rfl irow ?_; rw [show (fun i => O (0 + i)) = O from by funext i; rw [Nat.zero_add]]) | (go_at_call 21; (refine IN.out.mono ?_); rintro e w4 ⟨rfl, hu4⟩; have H4 := Lib.hid (H3.out.upd' hcb hu4); clear hu4))
    have H5 : Hid (FoR c H2 KK PP O w (w4.alloc (.cells #[.bool false, .int .i64 YV, .int .i64 SV] 36))) := Lib.hid (H4.out.down ((Below.refl w4.heap.size w4).alloc (Nat.le_refl _) _))
    have Q5 : Hid (Res (w4.alloc (.cells #[.bool false, .int .i64 YV, .int .i64 SV] 36)) w4.heap.size false YV SV) := Lib.hid (Res.new w4 false YV SV)
    have hrb : w.heap.size + 1 + 1 + 1 + 1 + 1 < w4.heap.size := H4.out.r2.lt
    have HRB : Hid (∃ rb, w4.heap.size = rb) := Lib.hid ⟨_, rfl⟩
    obtain ⟨rb, hrb2⟩ := HRB.out
    rw [hrb2] at Q5 hrb ⊢
    generalize w4.alloc (.cells #[.bool false, .int .i64 YV, .int .i64 SV] 36) = w5 at *
    clear hrb2 HRB H4 H3 P3 O3 o25 IN
    obtain ⟨⟨q0, q1, q2⟩, _⟩ := Q5.out.c
    have o26 := H5.out.o.cell (i := 26) (by decide)
    have LI := likely_any YV SV (O 26) w5 HO.out.1 HO.out.2
    rw [LK.out] at LI
    have LI := Lib.hid LI
    go_upto_region 6 with (go_at_call 14; (refine LI.out.mono ?_); rintro e w6 ⟨rfl, hb6⟩; have H6 := Lib.hid (H5.out.down hb6); have Q6 := Lib.hid (Q5.out.below hb6); clear hb6)
    clear LI o26 q0 q1 q2 H5 Q5
    obtain ⟨⟨q0, q1, q2⟩, g0, g1, g2⟩ := Q6.out.c
    have H7 := Lib.hid (H6.out.other (o := 0) hrb (.bool true))
    have Q7 := Lib.hid (Q6.out.take true)
    go_upto_region 7 with fail
    generalize w6.setCell ⟨rb, 0, none⟩ (.bool true) = w7 at *
    clear q0 q1 q2 g0 g1 g2 H6 Q6
    have P7 := H7.out.p
    have O7 := H7.out.o
    have o25 := O7.cell (i := 25) (by decide)
    have UP := update_any c H2 PP O (O 25) w7 (H7.out.upd.cellc HC.out) ((H7.out.upd.frozen hcb).trans HF.out)
    rw [HQ.out.1, HQ.out.2.1, HSV.out, HH.out.1] at UP
    have UP := Lib.hid UP
    have hcr : c.block ≠ rb := by omega
    go_upto_region 8 with (first | (refine wpList_load_row rfl 26 _ rfl (w.heap.size + 1) rfl 26 _ (0, 0) _ (P7) Try.underlying26 rfl (icov.trans (by rw [arrv_size])) ?_) | (refine wpList_load_sub rfl 39 _ rfl (w.heap.size + 1 + 1) 0 24 rfl O7 (by decide) _ Try.underlying39 rfl irow ?_; rw [show (fun i => O (0 + i)) = O from by funext i; rw [Nat.zero_add]]) | (go_at_call 22; (refine UP.out.mono ?_); rintro e w8 ⟨rfl, hu8⟩; have H8 := Lib.hid (H7.out.upd' hcb hu8); have Q8 := Lib.hid (Q7.out.upd hu8 (Ne.symm hcr)); (have RA : Blk ((w8.alloc (.cells Try.zeroCells26 26)).alloc (.cells #[.int .i64 0, .int .i64 0, .int .i64 0, .int .i64 0, .int .i64 0, .int .i64 0, .int .i64 0, .int .i64 0, .int .i64 0, .int .i64 0, .int .i64 0, .int .i64 0, .int .i64 0, .int .i64 0, .int .i64 0, .int .i64 0, .int .i64 0, .int .i64 0, .int .i64 0, .int .i64 0, .int .i64 0, .int .i64 0, .int .i64 0, .int .i64 0] 39)) w8.heap.size 26 300 (fun _ => 0) := (by rw [zcov]; exact (Blk.new _ _ _ _).alloc _); have RB : Blk (((w8.alloc (.cells Try.zeroCells26 26)).alloc (.cells #[.int .i64 0, .int .i64 0, .int .i64 0, .int .i64 0, .int .i64 0, .int .i64 0, .int .i64 0, .int .i64 0, .int .i64 0, .int .i64 0, .int .i64 0, .int .i64 0, .int .i64 0, .int .i64 0, .int .i64 0, .int .i64 0, .int .i64 0, .int .i64 0, .int .i64 0, .int .i64 0, .int .i64 0, .int .i64 0, .int .i64 0, .int .i64 0] 39)).setRow w8.heap.size (arrv 300 (QQ))) (w8.heap.size + 1) 39 24 (fun _ => 0) := (by rw [zrow]; exact (Blk.new1 _ _ _ _ _).setRow_other _ (by omega))); clear hu8) | (refine wpList_store_row rfl 26 _ _ rfl (w8.heap.size) _ rfl rfl 26 _ (RA) (icov.trans (by rw [arrv_size])) (by rw [arrv_size, arrv_size]) (oneCell_arrv _ _) ?_) | (refine wpList_store_row rfl 39 _ _ rfl (w8.heap.size + 1) _ rfl rfl 39 _ (RB) (irow.trans (by rw [arrv_size])) (by rw [arrv_size, arrv_size]) (oneCell_arrv _ _) ?_))
    obtain ⟨w9, hw9⟩ : ∃ x, x = ((((w8.alloc (.cells Try.zeroCells26 26)).alloc (.cells #[.int .i64 0, .int .i64 0, .int .i64 0, .int .i64 0, .int .i64 0, .int .i64 0, .int .i64 0, .int .i64 0, .int .i64 0, .int .i64 0, .int .i64 0, .int .i64 0, .int .i64 0, .int .i64 0, .int .i64 0, .int .i64 0, .int .i64 0, .int .i64 0, .int .i64 0, .int .i64 0, .int .i64 0, .int .i64 0, .int .i64 0, .int .i64 0] 39)).setRow w8.heap.size (arrv 300 (QQ))).setRow (w8.heap.size + 1) (arrv 24 (GG))) := ⟨_, rfl⟩; rw [← hw9]; obtain ⟨N0, N1, NB⟩ := two_made _ _ hw9; clear hw9
    have H9 := Lib.hid (H8.out.down NB)
    have Q9 := Lib.hid (Q8.out.below NB)
    have hub : w.heap.size + 1 + 1 + 1 + 1 + 1 < w8.heap.size := H8.out.r2.lt
    obtain ⟨ub, hub2⟩ : ∃ x, w8.heap.size = x := ⟨_, rfl⟩
    rw [hub2] at N0 N1 hub ⊢
    have NN := Lib.hid (And.intro N0 N1)
    clear N0 N1 NB hub2 RA RB H8 Q8 H7 Q7 P7 O7 o25 UP
    have ZH := H9.out.r0
    refine wp_region_M (fun w' => Blk w' w.heap.size 23 24 KK ∧ Blk w' (ub + 1) 39 24 GG ∧ Blk w' ub 26 300 QQ ∧ Res w' rb true YV SV) 12 (by kernel_rfl) ?_ (fun hHeld => ?_)
    · exact ⟨H9.out.s.drew, NN.out.2.drew, NN.out.1.drew, Q9.out⟩
    refine wpAnyM_take 0 (v := ?_) rfl (by kernel_rfl) (fun _ _ _ h => h) (Or.inl ⟨by rfl, ?_⟩) (by assumption) ?_
    rotate_left
    · (intro wx hSw; (try dsimp only at hSw); go_simp; (try with_reducible rfl))
    (try simp only [Act.put, nA, nB, nC])
    refine wpAnyM_take 1 (v := ?_) rfl (by kernel_rfl) (fun _ _ _ h => h) (Or.inl ⟨by rfl, ?_⟩) (by assumption) ?_
    rotate_left
    · (intro wx hSw; refine Eq.trans (run_load_row 23 (.tmp 5) (by rfl) (w.heap.size) (by rfl) _ _ _ _ (hSw.1) Try.underlying23 rfl (ist.trans (by rw [arrv_size]))) ?_; with_reducible rfl)
    (try simp only [Act.put, nA, nB, nC])
    refine wpAnyM_take 2 (v := ?_) rfl (by kernel_rfl) (fun _ _ _ h => h) (Or.inl ⟨by rfl, ?_⟩) (by assumption) ?_
    rotate_left
    · (intro wx hSw; (try dsimp only at hSw); go_simp; (try with_reducible rfl))
    (try simp only [Act.put, nA, nB, nC])
    refine wpAnyM_take 3 (v := ?_) rfl (by kernel_rfl) (fun _ _ _ h => h) (Or.inl ⟨by rfl, ?_⟩) (by assumption) ?_
    rotate_left
    · (intro wx hSw; refine Eq.trans (run_load_row 39 (.tmp 14) (by rfl) (ub + 1) (by rfl) _ _ _ _ (hSw.2.1) Try.underlying39 rfl (irow.trans (by rw [arrv_size]))) ?_; with_reducible rfl)
    (try simp only [Act.put, nA, nB, nC])
    refine wpAnyM_take 4 (v := ?_) rfl (by kernel_rfl) (fun _ _ _ h => h) (Or.inl ⟨by rfl, ?_⟩) (by assumption) ?_
    rotate_left
    · (intro wx hSw; (try dsimp only at hSw); go_simp; (try with_reducible rfl))
    (try simp only [Act.put, nA, nB, nC])
    refine wpAnyM_take 8 (v := ?_) rfl (by kernel_rfl) (fun _ _ _ h => h) (Or.inl ⟨by rfl, ?_⟩) (by assumption) ?_
    rotate_left
    · (intro wx hSw; refine Eq.trans (run_load_row 26 (.tmp 13) (by rfl) (ub) (by rfl) _ _ _ _ (hSw.2.2.1) Try.underlying26 rfl (icov.trans (by rw [arrv_size]))) ?_; with_reducible rfl)
    (try simp only [Act.put, nA, nB, nC])
    refine wpAnyM_take 9 (v := ?_) rfl (by kernel_rfl) (fun _ _ _ h => h) (Or.inl ⟨by rfl, ?_⟩) (by assumption) ?_
    rotate_left
    · (intro wx hSw; obtain ⟨⟨c0, c1, c2⟩, _⟩ := hSw.2.2.2.c; go_simp; (try with_reducible rfl))
    (try simp only [Act.put, nA, nB, nC])
    refine wpAnyM_oneS 5 rfl (by kernel_rfl) (fun K hK => ?_)
    go_simp
    (refine (gain_any c _ GG YV _ (H9.out.drew.upd.cellc HC.out) ((H9.out.drew.upd.frozen hcb).trans HF.out)).mono ?_); rintro e w10 ⟨rfl, hu10⟩; (rw [HQ.out.2.2.1]); (rw [HH.out.2.1] at hu10); have HA := Lib.hid (And.intro (H9.out.drew.upd' hcb hu10) (And.intro (NN.out.2.drew.upd hu10 (by omega)) (And.intro (NN.out.1.drew.upd hu10 (by omega)) (Q9.out.upd (w := w9.drew) hu10 (Ne.symm hcr))))); clear hu10
    (try dsimp only)
    (try simp only [Act.put, nA, nB, nC])
    clear hHeld
    refine hK.out _ _ ?_ (fun hHeld => ?_)
    · exact ⟨HA.out.1.s, HA.out.2.1, HA.out.2.2.1, HA.out.2.2.2⟩
    clear hK K
    (try simp only [Act.put, nA, nB, nC])
    refine wpAnyM_oneS 6 rfl (by kernel_rfl) (fun K hK => ?_)
    refine if_pos_of (by rfl) (wp_bsl24 (.tmp 62) rfl rfl ?_); have hBB := (Below.refl w10.heap.size w10).alloc (Nat.le_refl _) (.cells (arrv 24 GN) 22); have HB := Lib.hid (And.intro (HA.out.1.down hBB) (And.intro (HA.out.2.1.below hBB) (And.intro (HA.out.2.2.1.below hBB) (HA.out.2.2.2.below hBB)))); have DB : Hid (Blk (w10.alloc (.cells (arrv 24 GN) 22)) w10.heap.size 22 (24 * 1) GN) := Lib.hid (Blk.new _ _ 24 _); clear hBB
    clear hHeld
    refine hK.out _ _ ?_ (fun hHeld => ?_)
    · exact ⟨HB.out.1.s, HB.out.2.1, HB.out.2.2.1, HB.out.2.2.2⟩
    clear hK K
    (try simp only [Act.put, nA, nB, nC])
    refine wpAnyM_oneS 7 rfl (by kernel_rfl) (fun K hK => ?_)
    go_simp
    (refine (sadd_any c _ KK GN w10.heap.size 1 1 _ (HB.out.1.upd.cellc HC.out) ((HB.out.1.upd.frozen hcb).trans HF.out) (by decide) (by decide) DB.out).mono ?_); rintro e w11 ⟨rfl, hu11⟩; (rw [HQ.out.2.2.2]); (rw [HH.out.2.2] at hu11); have HD := Lib.hid (And.intro (HB.out.1.upd' hcb hu11) (And.intro (HB.out.2.1.upd hu11 (by omega)) (And.intro (HB.out.2.2.1.upd hu11 (by omega)) (HB.out.2.2.2.upd hu11 (Ne.symm hcr))))); have S6 := HD.out.1.r0; clear hu11
    (try dsimp only)
    (try simp only [Act.put, nA, nB, nC])
    clear hHeld
    refine hK.out _ _ ?_ (fun hHeld => ?_)
    · exact ⟨HD.out.1.s, HD.out.2.1, HD.out.2.2.1, HD.out.2.2.2⟩
    clear hK K
    (try simp only [Act.put, nA, nB, nC])
    refine wpAnyM_oneS 10 rfl (by kernel_rfl) (fun K hK => ?_)
    go_simp; rw [if_pos (arrv_size _ _), run_storeCells_row _ S6]; go_simp; have T6 : Blk (w11.setRow (w.heap.size + 1 + 1 + 1) (arrv 24 AA)) (w.heap.size + 1 + 1 + 1 + 1) 26 300 (fun _ => 0) := HD.out.1.r1.setRow_other _ (by omega)
    clear hHeld
    refine hK.out _ _ ?_ (fun hHeld => ?_)
    · exact ⟨HD.out.1.s.setRow_other _ (by omega), HD.out.2.1.setRow_other _ (by omega), HD.out.2.2.1.setRow_other _ (by omega), HD.out.2.2.2.row _ (by omega)⟩
    clear hK K
    (try simp only [Act.put, nA, nB, nC])
    refine wpAnyM_oneS 11 rfl (by kernel_rfl) (fun K hK => ?_)
    go_simp; rw [if_pos (arrv_size _ _), run_storeCells_row _ T6]; go_simp; have V6 : Res ((w11.setRow (w.heap.size + 1 + 1 + 1) (arrv 24 AA)).setRow (w.heap.size + 1 + 1 + 1 + 1) (arrv 300 QQ)) (w.heap.size + 1 + 1 + 1 + 1 + 1) false 0 0 := (HD.out.1.r2.row _ (by omega)).row _ (by omega); obtain ⟨⟨v0, v1, v2⟩, y0, y1, y2⟩ := V6.c
    clear hHeld
    refine hK.out _ _ ?_ (fun hHeld => ?_)
    · exact ⟨(HD.out.1.s.setRow_other _ (by omega)).setRow_other _ (by omega), (HD.out.2.1.setRow_other _ (by omega)).setRow_other _ (by omega), (HD.out.2.2.1.setRow_other _ (by omega)).setRow_other _ (by omega), (HD.out.2.2.2.row _ (by omega)).row _ (by omega)⟩
    clear hK K
    (try simp only [Act.put, nA, nB, nC])
    refine wpAnyM_one 12 rfl (by kernel_rfl) (fun K hK => ?_)
    go_simp
    refine hK.out _ _ (.inl (by kernel_rfl)) (fun _ => ?_)
    clear hK K
    (try simp only [Act.put, nA, nB, nC])
    refine wpAnyM_done (by kernel_rfl) ?_ _
    have X0 : Blk ((w11.setRow (w.heap.size + 1 + 1 + 1) (arrv 24 AA)).setRow (w.heap.size + 1 + 1 + 1 + 1) (arrv 300 QQ)) (w.heap.size + 1 + 1 + 1) 23 24 AA := (S6.setRow AA).setRow_other _ (by omega)
    have X1 : Blk ((w11.setRow (w.heap.size + 1 + 1 + 1) (arrv 24 AA)).setRow (w.heap.size + 1 + 1 + 1 + 1) (arrv 300 QQ)) (w.heap.size + 1 + 1 + 1 + 1) 26 300 QQ := T6.setRow QQ
    have XU : Upd c H5' w ((w11.setRow (w.heap.size + 1 + 1 + 1) (arrv 24 AA)).setRow (w.heap.size + 1 + 1 + 1 + 1) (arrv 300 QQ)) := HD.out.1.upd.then' (below_row (below_row (Below.refl _ _) (by omega) _) (by omega) _)
    generalize (w11.setRow (w.heap.size + 1 + 1 + 1) (arrv 24 AA)).setRow (w.heap.size + 1 + 1 + 1 + 1) (arrv 300 QQ) = w12 at *
    have Y0 := ((X0.other (a := ⟨w.heap.size + 1 + 1 + 1 + 1 + 1, 0, none⟩) (by simp) (.bool true)).other (a := ⟨w.heap.size + 1 + 1 + 1 + 1 + 1, 1, none⟩) (by simp) (.int .i64 YV)).other (a := ⟨w.heap.size + 1 + 1 + 1 + 1 + 1, 2, none⟩) (by simp) (.int .i64 SV)
    have Y1 := ((X1.other (a := ⟨w.heap.size + 1 + 1 + 1 + 1 + 1, 0, none⟩) (by simp) (.bool true)).other (a := ⟨w.heap.size + 1 + 1 + 1 + 1 + 1, 1, none⟩) (by simp) (.int .i64 YV)).other (a := ⟨w.heap.size + 1 + 1 + 1 + 1 + 1, 2, none⟩) (by simp) (.int .i64 SV)
    have Y2 := V6.set3 true YV SV
    have YU := ((XU.setCell (p := ⟨w.heap.size + 1 + 1 + 1 + 1 + 1, 0, none⟩) (by simp; omega) (.bool true)).setCell (p := ⟨w.heap.size + 1 + 1 + 1 + 1 + 1, 1, none⟩) (by simp; omega) (.int .i64 YV)).setCell (p := ⟨w.heap.size + 1 + 1 + 1 + 1 + 1, 2, none⟩) (by simp; omega) (.int .i64 SV)
    go_wp2_with fail
    refine bodyPost_ret_by (results_rows3 Try.results7 _ _ (w.heap.size + 1 + 1 + 1) (w.heap.size + 1 + 1 + 1 + 1) (w.heap.size + 1 + 1 + 1 + 1 + 1) 23 26 36 (arrv 24 AA) (arrv 300 QQ) (res3 true YV SV) (0, 0) (0, 0) (0, 0) _ _ _ rfl Y0 Try.underlying23 rfl (ist.trans (by rw [arrv_size])) rfl Y1 Try.underlying26 rfl (icov.trans (by rw [arrv_size])) rfl Y2 Try.underlying36 rfl (ire.trans rfl)) rfl ⟨?_, ?_⟩
    · rw [E.out.1, E.out.2.1, E.out.2.2.1, E.out.2.2.2.1]
    · rw [E.out.2.2.2.2]; exact YU
end Go.Proofs.Ytpbgglkopfjagaa
