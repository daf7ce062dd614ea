/- Contracts of the program's functions and plain laws, part 19: they hold for all arguments. -/
import Derived.Test.YtpoiobgpggiebaaQ11
import Derived.Test.YtpoiobgpggiebaaQ17
import Derived.Test.YtpoiobgpggiebaaQ18
/- quat.Conj. -/
namespace Go.Proofs.Ytpoiobgpggiebaa
open Go.RowKit
open Go
set_option maxRecDepth 100000
def conjV (A : Nat → Int) : Nat → Int := fun i => if i = 0 then satV (A 0) else -satV (A i)
theorem BsR.upd {E : List Lx} {top : Nat} {w wr w' : World} {c : Addr} {h : Bool} (s : BsR E top w wr) (u : Upd c h wr w') (hc : top ≤ c.block) : BsR E top w w' :=
  s.low ⟨u.os, u.tape, u.output, u.size, fun k hk => u.block (by have := s.le; omega) (by omega)⟩ (Nat.le_trans s.le u.size)
set_option maxHeartbeats 4000000 in
theorem conj_any (A : Nat → Int) (w : World) : Calls Try.prog 30 #[.agg (arrv 4 A)] w fun e w' => e = .returned (.agg (arrv 4 (conjV A))) ∧ Below w.heap.size w w' := by
  have L0 := Lib.hid (show BsR [⟨w.heap.size, 42, 4, A⟩, ⟨w.heap.size + 1, 42, 4, fun _ => 0⟩] (w.heap.size + 1 + 1) w ((w.alloc (.cells (arrv 4 A) 42)).alloc (.cells #[.int .i64 0, .int .i64 0, .int .i64 0, .int .i64 0] 42)) by
    rw [zq4]
    have := ((bs_nil w).lay 42 4 A).lay 42 4 (fun _ => 0)
    simp at this
    exact this.sub (by simp))
  go_enter Try.func30, Try.ntmps30
  go_upto_region 1 with fail
  generalize (w.alloc (.cells (arrv 4 A) 42)).alloc (.cells #[.int .i64 0, .int .i64 0, .int .i64 0, .int .i64 0] 42) = W0 at *
  have L1 := Lib.hid (L0.out.alloc (.cells #[.bool false] 29))
  have F1 := Lib.hid (Flg.new W0 false)
  have hz := L0.out.le
  clear L0
  have P0 := L1.out.e0
  refine wp_region_lit ?_
  refine wpList_val (v := ?_) rfl ?_ ?_
  rotate_left
  · (go_simp; (try (first | with_reducible rfl | (constructor <;> with_reducible rfl))))
  (try simp only [Act.put, nA, nB, nC])
  refine wpList_act (v := ?_) (w' := ?_) rfl ?_ ?_
  rotate_left 2
  · (go_simp; (try (first | with_reducible rfl | (constructor <;> with_reducible rfl))))
  (try simp only [Act.put, nA, nB, nC])
  refine wpList_val (v := ?_) rfl ?_ ?_
  rotate_left
  · refine Eq.trans (run_load_row 42 (.tmp 1) (by rfl) (w.heap.size) (by rfl) _ _ _ _ (P0) Try.underlying42 rfl (iqt.trans (by rw [arrv_size]))) ?_; with_reducible rfl
  (try simp only [Act.put, nA, nB, nC])
  refine wpList_step (fun K hK => ?_)
  go_simp
  (refine (qsat_any ⟨W0.heap.size, 0, none⟩ false A _ F1.out.cell F1.out.free).mono ?_); rintro e w1 ⟨rfl, hu⟩; have L2 := Lib.hid (L1.out.upd hu hz); clear hu L1 F1 P0; have P1 := L2.out.e0
  (try dsimp only)
  (try simp only [Act.put, nA, nB, nC])
  refine hK _ _ ?_
  clear hK K
  refine wpList_done (w' := ?_) rfl ?_ ?_
  rotate_left
  · refine Eq.trans (run_store_row 42 (.tmp 1) (.tmp 6) (by rfl) (w.heap.size) (by rfl) (by rfl) (P1) (iqt.trans rfl)) ?_; with_reducible rfl
  (try simp only [Act.put, nA, nB, nC])
  refine wpList_nil ?_
  have L3 := Lib.hid (L2.out.row (by simp) (satA A))
  generalize w1.setRow w.heap.size (arrv 4 (satA A)) = W1 at *
  clear L2 P1
  obtain ⟨a, ha⟩ : ∃ x, satV (A 0) = x := ⟨_, rfl⟩
  obtain ⟨b, hb⟩ : ∃ x, satV (A 1) = x := ⟨_, rfl⟩
  obtain ⟨c, hc⟩ : ∃ x, satV (A 2) = x := ⟨_, rfl⟩
  obtain ⟨d, hd⟩ : ∃ x, satV (A 3) = x := ⟨_, rfl⟩
  have HE := Lib.hid (show arrv 4 (q4 a (-b) (-c) (-d)) = arrv 4 (conjV A) from arrv_congr fun i hi => by
    unfold q4 conjV
    rcases (show i = 0 ∨ i = 1 ∨ i = 2 ∨ i = 3 by omega) with rfl | rfl | rfl | rfl <;> simp [ha, hb, hc, hd])
  have b0 := (hb ▸ satV_bd (A 1) : -1152921504606846976 ≤ b ∧ b ≤ 1152921504606846976).1
  have b1 := (hb ▸ satV_bd (A 1) : -1152921504606846976 ≤ b ∧ b ≤ 1152921504606846976).2
  have c0 := (hc ▸ satV_bd (A 2) : -1152921504606846976 ≤ c ∧ c ≤ 1152921504606846976).1
  have c1 := (hc ▸ satV_bd (A 2) : -1152921504606846976 ≤ c ∧ c ≤ 1152921504606846976).2
  have d0 := (hd ▸ satV_bd (A 3) : -1152921504606846976 ≤ d ∧ d ≤ 1152921504606846976).1
  have d1 := (hd ▸ satV_bd (A 3) : -1152921504606846976 ≤ d ∧ d ≤ 1152921504606846976).2
  have r0 : W1.cell? ⟨w.heap.size, 0, none⟩ = some (.int .i64 a) := by rw [← ha]; exact L3.out.e0.cell (i := 0) (by decide)
  have r1 : W1.cell? ⟨w.heap.size, 1, none⟩ = some (.int .i64 b) := by rw [← hb]; exact L3.out.e0.cell (i := 1) (by decide)
  have r2 : W1.cell? ⟨w.heap.size, 2, none⟩ = some (.int .i64 c) := by rw [← hc]; exact L3.out.e0.cell (i := 2) (by decide)
  have r3 : W1.cell? ⟨w.heap.size, 3, none⟩ = some (.int .i64 d) := by rw [← hd]; exact L3.out.e0.cell (i := 3) (by decide)
  have NB := Lib.hid (And.intro (IntWalk.i64_in (-b) (by omega)) (And.intro (IntWalk.i64_in (-c) (by omega)) (IntWalk.i64_in (-d) (by omega))))
  clear ha hb hc hd
  go_upto_region 2 with fail
  refine wp_region_lit ?_
  refine wpList_val (v := ?_) rfl ?_ ?_
  rotate_left
  · (go_simp; (try (first | with_reducible rfl | (constructor <;> with_reducible rfl))))
  (try simp only [Act.put, nA, nB, nC])
  refine wpList_val (v := ?_) rfl ?_ ?_
  rotate_left
  · (go_simp; (try (first | with_reducible rfl | (constructor <;> with_reducible rfl))))
  (try simp only [Act.put, nA, nB, nC])
  refine wpList_val (v := ?_) rfl ?_ ?_
  rotate_left
  · (go_simp; (try (first | with_reducible rfl | (constructor <;> with_reducible rfl))))
  (try simp only [Act.put, nA, nB, nC])
  refine wpList_val (v := ?_) rfl ?_ ?_
  rotate_left
  · (go_simp; (try (first | with_reducible rfl | (constructor <;> with_reducible rfl))))
  (try simp only [Act.put, nA, nB, nC])
  refine wpList_val (v := ?_) rfl ?_ ?_
  rotate_left
  · (go_simp; rw [NB.out.1])
  (try simp only [Act.put, nA, nB, nC])
  refine wpList_val (v := ?_) rfl ?_ ?_
  rotate_left
  · (go_simp; (try (first | with_reducible rfl | (constructor <;> with_reducible rfl))))
  (try simp only [Act.put, nA, nB, nC])
  refine wpList_val (v := ?_) rfl ?_ ?_
  rotate_left
  · (go_simp; (try (first | with_reducible rfl | (constructor <;> with_reducible rfl))))
  (try simp only [Act.put, nA, nB, nC])
  refine wpList_val (v := ?_) rfl ?_ ?_
  rotate_left
  · (go_simp; rw [NB.out.2.1])
  (try simp only [Act.put, nA, nB, nC])
  refine wpList_val (v := ?_) rfl ?_ ?_
  rotate_left
  · (go_simp; (try (first | with_reducible rfl | (constructor <;> with_reducible rfl))))
  (try simp only [Act.put, nA, nB, nC])
  refine wpList_val (v := ?_) rfl ?_ ?_
  rotate_left
  · (go_simp; (try (first | with_reducible rfl | (constructor <;> with_reducible rfl))))
  (try simp only [Act.put, nA, nB, nC])
  refine wpList_val (v := ?_) rfl ?_ ?_
  rotate_left
  · (go_simp; rw [NB.out.2.2])
  (try simp only [Act.put, nA, nB, nC])
  refine wpList_val (v := ?_) rfl ?_ ?_
  rotate_left
  · (refine Eq.trans (run_build_q4 (.tmp 8) (.tmp 11) (.tmp 14) (.tmp 17) (by rfl) (by rfl) (by rfl) (by rfl) (by rfl)) ?_; with_reducible rfl)
  (try simp only [Act.put, nA, nB, nC])
  refine wpList_done (w' := ?_) rfl ?_ ?_
  rotate_left
  · (refine Eq.trans (run_store_row 42 (.tmp 2) (.tmp 18) (by rfl) (w.heap.size + 1) (by rfl) (by rfl) L3.out.e1 (iqt.trans rfl)) ?_; with_reducible rfl)
  (try simp only [Act.put, nA, nB, nC])
  refine wpList_nil ?_
  have L4 := Lib.hid ((L3.out.sub (E' := [⟨w.heap.size + 1, 42, 4, fun _ => 0⟩]) (by simp)).row (by simp) (q4 a (-b) (-c) (-d)))
  generalize W1.setRow (w.heap.size + 1) (arrv 4 (q4 a (-b) (-c) (-d))) = W2 at *
  go_wp2_with fail
  refine bodyPost_ret (results_cell_row Try.results30 _ _ (w.heap.size + 1) 42 (arrv 4 _) (0, 0) _ rfl L4.out.e0 Try.underlying42 rfl (iqt.trans (by rw [arrv_size]))) rfl ⟨by rw [HE.out], L4.out.below⟩
end Go.Proofs.Ytpoiobgpggiebaa
/- output.Correct: what it keeps. -/
namespace Go.Proofs.Ytpoiobgpggiebaa
open Go.RowKit
open Go
set_option maxRecDepth 100000
theorem LsR.add {c : Addr} {h : Bool} {E : List Lx} {top top' : Nat} {w wr : World} (s : LsR c h E top w wr) {b T n : Nat} {F : Nat → Int} (hb : Blk wr b T n F) (ht : top ≤ b) (h1 : b < top') (h2 : top' ≤ wr.heap.size) : LsR c h (⟨b, T, n, F⟩ :: E) top' w wr := by
  have hl := s.lim
  refine ⟨s.upd, s.cell, s.free, s.cb, fun e he => ?_, by omega, h2⟩
  rcases List.mem_cons.1 he with rfl | he
  · exact ⟨hb, by simp only; omega, h1⟩
  · have := s.ex e he
    exact ⟨this.1, this.2.1, by omega⟩
/-- A call's own blocks, its boxes, the predictor. -/
structure CrR (c : Addr) (h : Bool) (pb : Nat) (z g : Int) (v : Value) (n : Nat) (L : Nat → Nat → Int) (E : List Lx) (top : Nat) (w wr : World) : Prop where
  ls : LsR c h E top w wr
  b0 : wr.cell? ⟨w.heap.size, 0, none⟩ = some (.pointer (some ⟨pb, 0, none⟩))
  b1 : wr.cell? ⟨w.heap.size + 1, 0, none⟩ = some (.pointer (some c))
  pd : PdR wr pb z g v n L
  big : w.heap.size + 2 ≤ top
  eb : ∀ e, e ∈ E → w.heap.size + 2 ≤ e.b
  n1 : pb ≠ c.block
  n2 : ∀ k, v.ownBlock = some k → k ≠ c.block
  l1 : pb < w.heap.size
  l2 : ∀ k, v.ownBlock = some k → k < w.heap.size
section
variable {c : Addr} {h h' : Bool} {pb : Nat} {z g : Int} {v : Value} {n : Nat} {L : Nat → Nat → Int} {E : List Lx} {top : Nat} {w wr w' : World}
theorem CrR.low (s : CrR c h pb z g v n L E top w wr) (u : Below top wr w') (hz : top ≤ w'.heap.size) : CrR c h pb z g v n L E top w w' := by
  have hb := s.big
  have h1 := s.l1
  refine ⟨s.ls.low u hz, (u.cell (p := ⟨w.heap.size, 0, none⟩) (by show w.heap.size < top; omega)).trans s.b0, (u.cell (p := ⟨w.heap.size + 1, 0, none⟩) (by show w.heap.size + 1 < top; omega)).trans s.b1, ?_, s.big, s.eb, s.n1, s.n2, s.l1, s.l2⟩
  refine s.pd.kept (X := fun k => top ≤ k) ⟨u.os, u.tape, u.output, u.size, fun k _ hx => u.block k (by omega)⟩ (by omega) (fun k e => by have := s.l2 k e; omega)
theorem CrR.down (s : CrR c h pb z g v n L E top w wr) (u : Below wr.heap.size wr w') : CrR c h pb z g v n L E top w w' := s.low (u.mono s.ls.le) (Nat.le_trans s.ls.le u.size)
theorem CrR.drew (s : CrR c h pb z g v n L E top w wr) : CrR c h pb z g v n L E top w wr.drew := s.down (Below.drew (Below.refl _ _))
theorem CrR.alloc (s : CrR c h pb z g v n L E top w wr) (o : Obj) : CrR c h pb z g v n L E top w (wr.alloc o) := s.down ((Below.refl _ _).alloc (Nat.le_refl _) o)
theorem CrR.upd' (s : CrR c h pb z g v n L E top w wr) (u : Upd c h' wr w') : CrR c h' pb z g v n L E top w w' := by
  have hb := s.big
  have hc := s.ls.cb
  have hl := s.ls.le
  exact ⟨s.ls.upd' u, (World.cell?_of_block (u.block (by simp only; omega) (by simp only; omega))).trans s.b0, (World.cell?_of_block (u.block (by simp only; omega) (by simp only; omega))).trans s.b1, s.pd.upd u s.n1 s.n2, s.big, s.eb, s.n1, s.n2, s.l1, s.l2⟩
theorem CrR.put (s : CrR c h pb z g v n L E top w wr) {b : Nat} (hb : top ≤ b) (F : Array Value) : CrR c h pb z g v n L E top w (wr.setRow b F) :=
  s.low (below_row (Below.refl _ _) hb F) (by rw [setRow_size]; exact s.ls.le)
theorem CrR.add (s : CrR c h pb z g v n L E top w wr) {b T m top' : Nat} {F : Nat → Int} (hb : Blk wr b T m F) (ht : top ≤ b) (h1 : b < top') (h2 : top' ≤ wr.heap.size) : CrR c h pb z g v n L (⟨b, T, m, F⟩ :: E) top' w wr :=
  ⟨s.ls.add hb ht h1 h2, s.b0, s.b1, s.pd, by have := s.big; omega, fun e he => by
    rcases List.mem_cons.1 he with rfl | he
    · have := s.big; simp only; omega
    · exact s.eb e he, s.n1, s.n2, s.l1, s.l2⟩
theorem CrR.top' (s : CrR c h pb z g v n L E top w wr) {top' : Nat} (h1 : top ≤ top') (h2 : top' ≤ wr.heap.size) : CrR c h pb z g v n L E top' w wr :=
  ⟨⟨s.ls.upd, s.ls.cell, s.ls.free, s.ls.cb, fun e he => by have := s.ls.ex e he; exact ⟨this.1, this.2.1, by omega⟩, by have := s.ls.lim; omega, h2⟩, s.b0, s.b1, s.pd, by have := s.big; omega, s.eb, s.n1, s.n2, s.l1, s.l2⟩
theorem CrR.sub {E' : List Lx} (s : CrR c h pb z g v n L E top w wr) (hs : ∀ e, e ∈ E' → e ∈ E) : CrR c h pb z g v n L E' top w wr :=
  ⟨s.ls.sub hs, s.b0, s.b1, s.pd, s.big, fun e he => s.eb e (hs e he), s.n1, s.n2, s.l1, s.l2⟩
theorem CrR.row {b T m : Nat} {F : Nat → Int} (s : CrR c h pb z g v n L (⟨b, T, m, F⟩ :: E) top w wr) (hn : ∀ e, e ∈ E → e.b ≠ b) (G : Nat → Int) : CrR c h pb z g v n L (⟨b, T, m, G⟩ :: E) top w (wr.setRow b (arrv m G)) := by
  have hb : w.heap.size + 2 ≤ b := s.eb _ (.head _)
  have h1 := s.l1
  exact ⟨s.ls.row hn G, by rw [(ls_row_other _ (by show w.heap.size ≠ b; omega)).1]; exact s.b0, by rw [(ls_row_other _ (by show w.heap.size + 1 ≠ b; omega)).1]; exact s.b1, s.pd.row _ (by omega) (fun k e => by have := s.l2 k e; omega), s.big, fun e he => by
    rcases List.mem_cons.1 he with rfl | he
    · exact hb
    · exact s.eb e (.tail _ he), s.n1, s.n2, s.l1, s.l2⟩
theorem CrR.set {b T m : Nat} {F : Nat → Int} (s : CrR c h pb z g v n L (⟨b, T, m, F⟩ :: E) top w wr) (hn : ∀ e, e ∈ E → e.b ≠ b) (i : Nat) (x : Int) : CrR c h pb z g v n L (⟨b, T, m, Go.Proofs.Ytpoiobgpggiebaa.upd F i x⟩ :: E) top w (wr.setCell ⟨b, i, none⟩ (.int .i64 x)) := by
  have hb : w.heap.size + 2 ≤ b := s.eb _ (.head _)
  have h1 := s.l1
  have hcc : ∀ k, k ≠ b → (wr.setCell ⟨b, i, none⟩ (.int .i64 x)).heap[k]? = wr.heap[k]? := fun k hk => heap_setCell_other wr _ k _ hk
  refine ⟨s.ls.set hn i x, (World.cell?_of_block (hcc _ (by simp only; omega))).trans s.b0, (World.cell?_of_block (hcc _ (by simp only; omega))).trans s.b1, ?_, s.big, fun e he => by
    rcases List.mem_cons.1 he with rfl | he
    · exact hb
    · exact s.eb e (.tail _ he), s.n1, s.n2, s.l1, s.l2⟩
  exact ⟨(hcc pb (by omega)).trans s.pd.blk, s.pd.own.kept fun k _ hk => hcc k (by have := s.l2 k hk.symm; omega), s.pd.ne⟩
theorem cr_new (s : CrR c h pb z g v n L E top w wr) (d : Nat) (e : wr.heap.size = d) : Blk (wr.alloc (.cells #[.int .i64 0, .int .i64 0, .int .i64 0, .int .i64 0, .int .i64 0, .int .i64 0, .int .i64 0, .int .i64 0, .int .i64 0, .int .i64 0, .int .i64 0] 49)) d 49 11 (fun _ => 0) ∧ top ≤ d := by
  subst e; rw [zou]; exact ⟨Blk.new _ _ _ _, s.ls.le⟩
theorem cr_newv (s : CrR c h pb z g v n L E top w wr) (d : Nat) (e : wr.heap.size = d) : Blk (wr.alloc (.cells #[.int .i64 0, .int .i64 0, .int .i64 0] 43)) d 43 3 (fun _ => 0) ∧ top ≤ d := by
  subst e; rw [zv3]; exact ⟨Blk.new _ _ _ _, s.ls.le⟩
theorem cr_newq (s : CrR c h pb z g v n L E top w wr) (d : Nat) (e : wr.heap.size = d) : Blk (wr.alloc (.cells #[.int .i64 0, .int .i64 0, .int .i64 0, .int .i64 0] 42)) d 42 4 (fun _ => 0) ∧ top ≤ d := by
  subst e; rw [show (#[.int .i64 0, .int .i64 0, .int .i64 0, .int .i64 0] : Array Value) = arrv 4 (fun _ => 0) by kernel_rfl]; exact ⟨Blk.new _ _ _ _, s.ls.le⟩
end
theorem pd_cells {w : World} {pb : Nat} {z g : Int} {gb n cp : Nat} {L : Nat → Nat → Int} (p : PdR w pb z g (.slice (some ⟨gb, 0, none⟩) n cp) n L) {k : Nat} (hk : k < n) : ∀ j, j < 11 → w.cell? ⟨gb, k * 11 + j, none⟩ = some (.int .i64 (L k j)) := by
  intro j hj
  rcases p.own.form with ⟨h0, _⟩ | ⟨gb', cp', e, _, _, hL⟩
  · omega
  · injection e with e1 e2 e3; injection e1 with e1; injection e1 with e1; subst e1
    exact hL k hk j hj
theorem cr_start {c : Addr} {h : Bool} {pb : Nat} {z g : Int} {v : Value} {n : Nat} {L : Nat → Nat → Int} {w : World} (S : Nat → Int) (hc : w.cell? c = some (.bool h)) (hf : w.frozen? c = false) (hp : PdR w pb z g v n L) (hcp : c.block ≠ pb) (hvc : ∀ k, v.ownBlock = some k → k ≠ c.block) :
    CrR c h pb z g v n L [⟨w.heap.size + 1 + 1, 32, 24, S⟩] (w.heap.size + 1 + 1 + 1) w (((w.alloc (.cells #[.pointer (some ⟨pb, 0, none⟩)] 23)).alloc (.cells #[.pointer (some c)] 27)).alloc (.cells (arrv 24 S) 32)) := by
  have L0 := (((ls_nil hc hf).alloc (.cells #[.pointer (some ⟨pb, 0, none⟩)] 23)).alloc (.cells #[.pointer (some c)] 27)).lay 32 24 S
  simp only [World.size_alloc] at L0
  have e0 : (w.alloc (.cells #[.pointer (some ⟨pb, 0, none⟩)] 23)).heap[w.heap.size]? = some (.cells #[.pointer (some ⟨pb, 0, none⟩)] 23 (0, 0)) := heap_alloc_new w _
  have b0 : Below (w.heap.size + 1) (w.alloc (.cells #[.pointer (some ⟨pb, 0, none⟩)] 23)) (((w.alloc (.cells #[.pointer (some ⟨pb, 0, none⟩)] 23)).alloc (.cells #[.pointer (some c)] 27)).alloc (.cells (arrv 24 S) 32)) := ((Below.refl _ _).alloc (by simp) _).alloc (by simp) _
  have e1 : ((w.alloc (.cells #[.pointer (some ⟨pb, 0, none⟩)] 23)).alloc (.cells #[.pointer (some c)] 27)).heap[w.heap.size + 1]? = some (.cells #[.pointer (some c)] 27 (0, 0)) := by
    have := heap_alloc_new (w.alloc (.cells #[.pointer (some ⟨pb, 0, none⟩)] 23)) (.cells #[.pointer (some c)] 27)
    simpa using this
  have b1 : Below (w.heap.size + 2) ((w.alloc (.cells #[.pointer (some ⟨pb, 0, none⟩)] 23)).alloc (.cells #[.pointer (some c)] 27)) (((w.alloc (.cells #[.pointer (some ⟨pb, 0, none⟩)] 23)).alloc (.cells #[.pointer (some c)] 27)).alloc (.cells (arrv 24 S) 32)) := (Below.refl _ _).alloc (by simp) _
  refine ⟨L0, ?_, ?_, ((hp.alloc _).alloc _).alloc _, by omega, fun e he => by simp at he; subst he; simp only; omega, fun e => hcp e.symm, hvc, hp.lt, fun k e => hp.own.lt e⟩
  · rw [b0.cell (p := ⟨w.heap.size, 0, none⟩) (by show w.heap.size < w.heap.size + 1; omega), cell_of_row _ w.heap.size 0 _ _ (0, 0) e0]; rfl
  · rw [b1.cell (p := ⟨w.heap.size + 1, 0, none⟩) (by show w.heap.size + 1 < w.heap.size + 2; omega), cell_of_row _ (w.heap.size + 1) 0 _ _ (0, 0) e1]; rfl
/-- The last output that is not behind a time. -/
def lastK (L : Nat → Nat → Int) (t : Int) : Nat → Int
  | 0 => -1
  | k + 1 => if L k 0 ≤ t then (k : Int) else lastK L t k
theorem lastK_bd (L : Nat → Nat → Int) (t : Int) : ∀ n, -1 ≤ lastK L t n ∧ lastK L t n < n
  | 0 => by simp [lastK]
  | n + 1 => by
    have := lastK_bd L t n
    unfold lastK
    split <;> omega
theorem lastK_at {L : Nat → Nat → Int} {t : Int} : ∀ {n k : Nat}, k < n → L k 0 ≤ t → (∀ i, k < i → i < n → t < L i 0) → lastK L t n = (k : Int)
  | 0, _, h, _, _ => by omega
  | n + 1, k, h, hk, hn => by
    unfold lastK
    by_cases e : k = n
    · subst e; rw [if_pos hk]
    · rw [if_neg (by have := hn n (by omega) (by omega); omega)]
      exact lastK_at (by omega) hk fun i h1 h2 => hn i h1 (by omega)
end Go.Proofs.Ytpoiobgpggiebaa
/- output.Correct of a time ahead of all outputs. -/
namespace Go.Proofs.Ytpoiobgpggiebaa
open Go.RowKit
open Go
set_option maxRecDepth 100000
/-- Behind an output's own copy. -/
theorem cr_copy {c : Addr} {h : Bool} {pb : Nat} {z g : Int} {v : Value} {n : Nat} {L : Nat → Nat → Int} {E : List Lx} {top : Nat} {w wr : World} (s : CrR c h pb z g v n L E top w wr) (O : Nat → Int) :
    CrR c h pb z g v n L E top w ((wr.alloc (.cells #[.int .i64 0, .int .i64 0, .int .i64 0, .int .i64 0, .int .i64 0, .int .i64 0, .int .i64 0, .int .i64 0, .int .i64 0, .int .i64 0, .int .i64 0] 49)).setRow wr.heap.size (arrv 11 O)) ∧ Blk (wr.alloc (.cells #[.int .i64 0, .int .i64 0, .int .i64 0, .int .i64 0, .int .i64 0, .int .i64 0, .int .i64 0, .int .i64 0, .int .i64 0, .int .i64 0, .int .i64 0] 49)) wr.heap.size 49 11 (fun _ => 0) ∧ Blk ((wr.alloc (.cells #[.int .i64 0, .int .i64 0, .int .i64 0, .int .i64 0, .int .i64 0, .int .i64 0, .int .i64 0, .int .i64 0, .int .i64 0, .int .i64 0, .int .i64 0] 49)).setRow wr.heap.size (arrv 11 O)) wr.heap.size 49 11 O := by
  have b := (cr_new s _ rfl).1
  exact ⟨(s.alloc _).put s.ls.le _, b, b.setRow O⟩
end Go.Proofs.Ytpoiobgpggiebaa
