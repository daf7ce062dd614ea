/- Contracts of the program's functions and plain laws, part 20: they hold for all arguments. -/
import Derived.Test.YtgfklheepkgedaaGreatQ19
import Derived.Test.YtgfklheepkgedaaGreatQ06
import Derived.Test.YtgfklheepkgedaaGreatQ14
import Derived.Test.YtgfklheepkgedaaGreatQ13
import Derived.Test.YtgfklheepkgedaaGreatQ18
/- Contracts of the reference's quaternions: sat, One, Unit. -/
namespace Go.Proofs.YtgfklheepkgedaaGreat
open Go.RowKit
set_option maxRecDepth 100000
theorem irq : (Tryz.prog.info? 43).map (·.size) = some 4 := by kernel_rfl
theorem arr4 (f : Nat → Int) : (#[.int .i64 (f 0), .int .i64 (f 1), .int .i64 (f 2), .int .i64 (f 3)] : Array Value) = arrv 4 f := by kernel_rfl
theorem rq_slc (w : World) (G : Nat → Int) (T : Nat) : ∀ i, i < 4 → (w.alloc (.cells #[.int .i64 (G 0), .int .i64 (G 1), .int .i64 (G 2), .int .i64 (G 3)] T)).cell? ⟨w.heap.size, 0 + i, none⟩ = some (.int .i64 (G i)) := by
  intro i hi
  obtain rfl | rfl | rfl | rfl : i = 0 ∨ i = 1 ∨ i = 2 ∨ i = 3 := by omega
  all_goals simp [go_sem]
theorem rqone_any (w : World) : Calls Tryz.prog 60 #[] w fun e w' => e = .returned (.agg (arrv 4 oneQ)) ∧ Below w.heap.size w w' := by
  go_enter Tryz.func60, Tryz.ntmps60
  go_wp2_with fail
  refine bodyPost_ret (v := .agg (arrv 4 oneQ)) (by rw [← oq4]; simp [results, Tryz.results60, go_sem, *]) rfl ⟨rfl, by (repeat (first | with_reducible exact Below.refl _ _ | with_reducible apply Below.drew | (with_reducible refine below_drewN ?_ _) | (with_reducible refine Below.alloc ?_ (by (try simp) <;> omega) _) | (with_reducible refine Below.setCell ?_ (by (try simp) <;> omega) _)))⟩
structure RqsR (c : Addr) (h : Bool) (A : Nat → Int) (w wr : World) : Prop where
  upd : Upd c h w wr
  blk : Blk wr w.heap.size 43 4 A
  res : Blk wr (w.heap.size + 1) 43 4 (fun _ => 0)
theorem RqsR.hit {c : Addr} {h h' : Bool} {A : Nat → Int} {w wr w' : World} (s : RqsR c h A w wr) (hc : c.block < w.heap.size) (e : wr.setCell c (.bool h') = w') : RqsR c h' A w w' := by
  subst e
  exact ⟨s.upd.trans (Upd.set c h' wr), s.blk.upd (Upd.set c h' wr) (by omega), s.res.upd (Upd.set c h' wr) (by omega)⟩
set_option maxHeartbeats 2000000 in
theorem rqsat_any (c : Addr) (h : Bool) (A : Nat → Int) (w : World) (hc : w.cell? c = some (.bool h)) (hf : w.frozen? c = false) :
    Calls Tryz.prog 65 #[.pointer (some c), .agg (arrv 4 A)] w fun e w' => e = .returned (.agg (arrv 4 (satA A))) ∧ Upd c (h || orB (fun i => satH (A i)) 4) w w' := by
  have hcb := World.block_lt_of_cell? w c hc
  have S0 : RqsR c h A w ((w.alloc (.cells (arrv 4 A) 43)).alloc (.cells #[.int .i64 0, .int .i64 0, .int .i64 0, .int .i64 0] 43)) :=
    ⟨Upd.then (Upd.refl hc) (by (repeat (first | with_reducible exact Below.refl _ _ | with_reducible apply Below.drew | (with_reducible refine below_drewN ?_ _) | (with_reducible refine Below.alloc ?_ (by (try simp) <;> omega) _) | (with_reducible refine Below.setCell ?_ (by (try simp) <;> omega) _)))), Blk.alloc (Blk.new w _ 4 A) _, by rw [zq4]; exact Blk.new1 w _ _ 4 _⟩
  have HC := Lib.hid hc
  have HF := Lib.hid hf
  clear hc hf
  go_enter Tryz.func65, Tryz.ntmps65
  go_upto_region 1 with fail
  generalize (w.alloc (.cells (arrv 4 A) 43)).alloc (.cells #[.int .i64 0, .int .i64 0, .int .i64 0, .int .i64 0] 43) = W0 at *
  have S1 := Lib.hid (RqsR.mk (w := w) S0.upd.drew S0.blk S0.res)
  have SA := Lib.hid (fun (g : Bool) (a : Int) (x : World) (s : RqsR c g A w x) => rsat_any c g a x (s.upd.cellc HC.out) ((s.upd.frozen hcb).trans HF.out))
  have EF := Lib.hid (show (h || orB (fun i => satH (A i)) 4) = (h || satH (A 0) || satH (A 1) || satH (A 2) || satH (A 3)) by simp [orB, Bool.or_assoc])
  clear S0
  refine wp_region_M (fun w' => Blk w' w.heap.size 43 4 A) 25 (by kernel_rfl) ?_ (fun hHeld => ?_)
  · exact S1.out.blk
  refine wpAnyM_take 0 (v := ?_) rfl (by kernel_rfl) (fun _ _ _ h => h) (Or.inl ⟨by rfl, ?_⟩) (by assumption) ?_
  rotate_left
  · (intro wx hSw; (try dsimp only at hSw); go_simp; (try with_reducible rfl))
  (try simp only [Act.put, nA, nB, nC])
  refine wpAnyM_take 1 (v := ?_) rfl (by kernel_rfl) (fun _ _ _ h => h) (Or.inl ⟨by rfl, ?_⟩) (by assumption) ?_
  rotate_left
  · (intro wx hSw; (try dsimp only at hSw); go_simp; (try with_reducible rfl))
  (try simp only [Act.put, nA, nB, nC])
  refine wpAnyM_take 2 (v := ?_) rfl (by kernel_rfl) (fun _ _ _ h => h) (Or.inl ⟨by rfl, ?_⟩) (by assumption) ?_
  rotate_left
  · (intro wx hSw; (try dsimp only at hSw); go_simp; (try with_reducible rfl))
  (try simp only [Act.put, nA, nB, nC])
  refine wpAnyM_take 3 (v := ?_) rfl (by kernel_rfl) (fun _ _ _ h => h) (Or.inl ⟨by rfl, ?_⟩) (by assumption) ?_
  rotate_left
  · (intro wx hSw; (try dsimp only at hSw); go_simp; (try with_reducible rfl))
  (try simp only [Act.put, nA, nB, nC])
  refine wpAnyM_take 4 (v := ?_) rfl (by kernel_rfl) (fun _ _ _ h => h) (Or.inl ⟨by rfl, ?_⟩) (by assumption) ?_
  rotate_left
  · (intro wx hSw; have q0 := Blk.cell (i := 0) hSw (by decide); go_simp; (try with_reducible rfl))
  (try simp only [Act.put, nA, nB, nC])
  refine wpAnyM_take 6 (v := ?_) rfl (by kernel_rfl) (fun _ _ _ h => h) (Or.inl ⟨by rfl, ?_⟩) (by assumption) ?_
  rotate_left
  · (intro wx hSw; (try dsimp only at hSw); go_simp; (try with_reducible rfl))
  (try simp only [Act.put, nA, nB, nC])
  refine wpAnyM_take 7 (v := ?_) rfl (by kernel_rfl) (fun _ _ _ h => h) (Or.inl ⟨by rfl, ?_⟩) (by assumption) ?_
  rotate_left
  · (intro wx hSw; (try dsimp only at hSw); go_simp; (try with_reducible rfl))
  (try simp only [Act.put, nA, nB, nC])
  refine wpAnyM_take 8 (v := ?_) rfl (by kernel_rfl) (fun _ _ _ h => h) (Or.inl ⟨by rfl, ?_⟩) (by assumption) ?_
  rotate_left
  · (intro wx hSw; (try dsimp only at hSw); go_simp; (try with_reducible rfl))
  (try simp only [Act.put, nA, nB, nC])
  refine wpAnyM_take 9 (v := ?_) rfl (by kernel_rfl) (fun _ _ _ h => h) (Or.inl ⟨by rfl, ?_⟩) (by assumption) ?_
  rotate_left
  · (intro wx hSw; (try dsimp only at hSw); go_simp; (try with_reducible rfl))
  (try simp only [Act.put, nA, nB, nC])
  refine wpAnyM_take 10 (v := ?_) rfl (by kernel_rfl) (fun _ _ _ h => h) (Or.inl ⟨by rfl, ?_⟩) (by assumption) ?_
  rotate_left
  · (intro wx hSw; have q0 := Blk.cell (i := 1) hSw (by decide); go_simp; (try with_reducible rfl))
  (try simp only [Act.put, nA, nB, nC])
  refine wpAnyM_take 12 (v := ?_) rfl (by kernel_rfl) (fun _ _ _ h => h) (Or.inl ⟨by rfl, ?_⟩) (by assumption) ?_
  rotate_left
  · (intro wx hSw; (try dsimp only at hSw); go_simp; (try with_reducible rfl))
  (try simp only [Act.put, nA, nB, nC])
  refine wpAnyM_take 13 (v := ?_) rfl (by kernel_rfl) (fun _ _ _ h => h) (Or.inl ⟨by rfl, ?_⟩) (by assumption) ?_
  rotate_left
  · (intro wx hSw; (try dsimp only at hSw); go_simp; (try with_reducible rfl))
  (try simp only [Act.put, nA, nB, nC])
  refine wpAnyM_take 14 (v := ?_) rfl (by kernel_rfl) (fun _ _ _ h => h) (Or.inl ⟨by rfl, ?_⟩) (by assumption) ?_
  rotate_left
  · (intro wx hSw; (try dsimp only at hSw); go_simp; (try with_reducible rfl))
  (try simp only [Act.put, nA, nB, nC])
  refine wpAnyM_take 15 (v := ?_) rfl (by kernel_rfl) (fun _ _ _ h => h) (Or.inl ⟨by rfl, ?_⟩) (by assumption) ?_
  rotate_left
  · (intro wx hSw; (try dsimp only at hSw); go_simp; (try with_reducible rfl))
  (try simp only [Act.put, nA, nB, nC])
  refine wpAnyM_take 16 (v := ?_) rfl (by kernel_rfl) (fun _ _ _ h => h) (Or.inl ⟨by rfl, ?_⟩) (by assumption) ?_
  rotate_left
  · (intro wx hSw; have q0 := Blk.cell (i := 2) hSw (by decide); go_simp; (try with_reducible rfl))
  (try simp only [Act.put, nA, nB, nC])
  refine wpAnyM_take 18 (v := ?_) rfl (by kernel_rfl) (fun _ _ _ h => h) (Or.inl ⟨by rfl, ?_⟩) (by assumption) ?_
  rotate_left
  · (intro wx hSw; (try dsimp only at hSw); go_simp; (try with_reducible rfl))
  (try simp only [Act.put, nA, nB, nC])
  refine wpAnyM_take 19 (v := ?_) rfl (by kernel_rfl) (fun _ _ _ h => h) (Or.inl ⟨by rfl, ?_⟩) (by assumption) ?_
  rotate_left
  · (intro wx hSw; (try dsimp only at hSw); go_simp; (try with_reducible rfl))
  (try simp only [Act.put, nA, nB, nC])
  refine wpAnyM_take 20 (v := ?_) rfl (by kernel_rfl) (fun _ _ _ h => h) (Or.inl ⟨by rfl, ?_⟩) (by assumption) ?_
  rotate_left
  · (intro wx hSw; (try dsimp only at hSw); go_simp; (try with_reducible rfl))
  (try simp only [Act.put, nA, nB, nC])
  refine wpAnyM_take 21 (v := ?_) rfl (by kernel_rfl) (fun _ _ _ h => h) (Or.inl ⟨by rfl, ?_⟩) (by assumption) ?_
  rotate_left
  · (intro wx hSw; (try dsimp only at hSw); go_simp; (try with_reducible rfl))
  (try simp only [Act.put, nA, nB, nC])
  refine wpAnyM_take 22 (v := ?_) rfl (by kernel_rfl) (fun _ _ _ h => h) (Or.inl ⟨by rfl, ?_⟩) (by assumption) ?_
  rotate_left
  · (intro wx hSw; have q0 := Blk.cell (i := 3) hSw (by decide); go_simp; (try with_reducible rfl))
  (try simp only [Act.put, nA, nB, nC])
  refine wpAnyM_oneS 5 rfl (by kernel_rfl) (fun K hK => ?_)
  go_simp
  (refine (SA.out _ (A 0) _ S1.out).mono ?_); rintro e w1 ⟨rfl, h1⟩; have S2 := Lib.hid (S1.out.hit hcb h1); clear h1
  (try dsimp only)
  (try simp only [Act.put, nA, nB, nC])
  clear hHeld
  refine hK.out _ _ ?_ (fun hHeld => ?_)
  · exact S2.out.blk
  clear hK K
  (try simp only [Act.put, nA, nB, nC])
  refine wpAnyM_oneS 11 rfl (by kernel_rfl) (fun K hK => ?_)
  go_simp
  (refine (SA.out _ (A 1) _ S2.out).mono ?_); rintro e w2 ⟨rfl, h2⟩; have S3 := Lib.hid (S2.out.hit hcb h2); clear h2
  (try dsimp only)
  (try simp only [Act.put, nA, nB, nC])
  clear hHeld
  refine hK.out _ _ ?_ (fun hHeld => ?_)
  · exact S3.out.blk
  clear hK K
  (try simp only [Act.put, nA, nB, nC])
  refine wpAnyM_oneS 17 rfl (by kernel_rfl) (fun K hK => ?_)
  go_simp
  (refine (SA.out _ (A 2) _ S3.out).mono ?_); rintro e w3 ⟨rfl, h3⟩; have S4 := Lib.hid (S3.out.hit hcb h3); clear h3
  (try dsimp only)
  (try simp only [Act.put, nA, nB, nC])
  clear hHeld
  refine hK.out _ _ ?_ (fun hHeld => ?_)
  · exact S4.out.blk
  clear hK K
  (try simp only [Act.put, nA, nB, nC])
  refine wpAnyM_oneS 23 rfl (by kernel_rfl) (fun K hK => ?_)
  go_simp
  (refine (SA.out _ (A 3) _ S4.out).mono ?_); rintro e w4 ⟨rfl, h4⟩; have S5 := Lib.hid (S4.out.hit hcb h4); have B5 := S5.out.res; clear h4
  (try dsimp only)
  (try simp only [Act.put, nA, nB, nC])
  clear hHeld
  refine hK.out _ _ ?_ (fun hHeld => ?_)
  · exact S5.out.blk
  clear hK K
  (try simp only [Act.put, nA, nB, nC])
  refine wpAnyM_take 24 (v := ?_) rfl (by kernel_rfl) (fun _ _ _ h => h) (Or.inl ⟨by rfl, ?_⟩) (by assumption) ?_
  rotate_left
  · (intro wx hSw; go_simp; rw [show (#[.int .i64 (satV (A 0)), .int .i64 (satV (A 1)), .int .i64 (satV (A 2)), .int .i64 (satV (A 3))] : Array Value) = arrv 4 (satA A) from arr4 (satA A)]; (try with_reducible rfl))
  (try simp only [Act.put, nA, nB, nC])
  refine wpAnyM_one 25 rfl (by kernel_rfl) (fun K hK => ?_)
  go_simp; rw [if_pos (arrv_size _ _), run_storeCells_row _ B5]; go_simp
  refine hK.out _ _ (.inl (by kernel_rfl)) (fun _ => ?_)
  clear hK K
  (try simp only [Act.put, nA, nB, nC])
  refine wpAnyM_done (by kernel_rfl) ?_ _
  (try clear hHeld)
  go_wp2_with fail
  refine bodyPost_ret (results_cell_row Tryz.results65 _ _ (w.heap.size + 1) 43 (arrv 4 (satA A)) (0, 0) _ rfl (setRow_heap _ _ _ _ _ _ B5) Tryz.underlying43 rfl (irq.trans (by rw [arrv_size]))) rfl ⟨rfl, ?_⟩
  rw [EF.out]
  exact S5.out.upd.then' (below_row (Below.refl _ _) (by omega) _)
structure RquR (c : Addr) (h : Bool) (g : Nat → Int) (w wr : World) : Prop where
  upd : Upd c h w wr
  blk : Blk wr w.heap.size 43 4 g
  res : Blk wr (w.heap.size + 1) 43 4 (fun _ => 0)
theorem RquR.upd' {c : Addr} {h h' : Bool} {g : Nat → Int} {w wr w' : World} (s : RquR c h g w wr) (hc : c.block < w.heap.size) (u : Upd c h' wr w') : RquR c h' g w w' :=
  ⟨s.upd.trans u, s.blk.upd u (by omega), s.res.upd u (by omega)⟩
set_option maxHeartbeats 2000000 in
theorem rqunit_any (c : Addr) (h : Bool) (A : Nat → Int) (w : World) (hc : w.cell? c = some (.bool h)) (hf : w.frozen? c = false) :
    Calls Tryz.prog 30 #[.pointer (some c), .agg (arrv 4 A)] w fun e w' => e = .returned (.agg (arrv 4 (uniV A))) ∧ Upd c (h || uniH A) w w' := by
  have hcb := World.block_lt_of_cell? w c hc
  have S0 : RquR c h A w ((w.alloc (.cells (arrv 4 A) 43)).alloc (.cells #[.int .i64 0, .int .i64 0, .int .i64 0, .int .i64 0] 43)) :=
    ⟨Upd.then (Upd.refl hc) (by (repeat (first | with_reducible exact Below.refl _ _ | with_reducible apply Below.drew | (with_reducible refine below_drewN ?_ _) | (with_reducible refine Below.alloc ?_ (by (try simp) <;> omega) _) | (with_reducible refine Below.setCell ?_ (by (try simp) <;> omega) _)))), Blk.alloc (Blk.new w _ 4 A) _, by rw [zq4]; exact Blk.new1 w _ _ 4 _⟩
  have HC := Lib.hid hc
  have HF := Lib.hid hf
  clear hc hf
  go_enter Tryz.func30, Tryz.ntmps30
  go_upto_region 1 with fail
  generalize (w.alloc (.cells (arrv 4 A) 43)).alloc (.cells #[.int .i64 0, .int .i64 0, .int .i64 0, .int .i64 0] 43) = W0 at *
  have P0 := S0.blk
  have H0 := Lib.hid S0
  have SC := Lib.hid (rqsat_any c h A W0 (S0.upd.cellc HC.out) ((S0.upd.frozen hcb).trans HF.out))
  clear S0
  go_upto_region 2 with (first | (refine wpList_load_row rfl 43 _ rfl (w.heap.size) rfl 43 _ (0, 0) _ (P0) Tryz.underlying43 rfl (irq.trans (by rw [arrv_size])) ?_) | (go_at_call 65; (refine SC.out.mono ?_); rintro e w1 ⟨rfl, hu1⟩; have P1 := P0.upd hu1 (by omega)) | (refine wpList_store_row rfl 43 _ _ rfl (w.heap.size) _ rfl rfl 43 _ (P1) (irq.trans (by rw [arrv_size])) (by rw [arrv_size, arrv_size]) (oneCell_arrv _ _) ?_))
  have S1 := H0.out.upd' hcb hu1
  have S2 : RquR c (h || orB (fun i => satH (A i)) 4) (satA A) w (w1.setRow w.heap.size (arrv 4 (satA A))) :=
    ⟨S1.upd.then' (below_row (Below.refl _ _) (Nat.le_refl _) _), S1.blk.setRow _, S1.res.setRow_other _ (by omega)⟩
  clear S1 SC P0 P1 H0 hu1
  generalize w1.setRow w.heap.size (arrv 4 (satA A)) = W1 at *
  have P2 := S2.blk
  have H2 := Lib.hid S2
  have EZ := zer4_eq (satA A)
  by_cases hz : zer4 (satA A) = true
  · rw [hz] at EZ
    have e1 : uniV A = oneQ := by unfold uniV; rw [if_pos hz]
    have e2 : (h || uniH A) = (h || orB (fun i => satH (A i)) 4) := by unfold uniH; rw [if_pos hz, Bool.or_false]
    have EZ := Lib.hid EZ
    have E1 := Lib.hid (And.intro e1 e2)
    clear hz e1 e2 S2
    refine wp_region_lit ?_
    refine wpList_val (v := ?_) rfl ?_ ?_
    rotate_left
    · refine Eq.trans (run_load_row 43 (.tmp 3) (by rfl) (w.heap.size) (by rfl) _ _ _ _ (P2) Tryz.underlying43 rfl (irq.trans (by rw [arrv_size]))) ?_; with_reducible rfl
    (try simp only [Act.put, nA, nB, nC])
    refine wpList_val (v := ?_) rfl ?_ ?_
    rotate_left
    · (go_simp; (try (first | with_reducible rfl | (constructor <;> with_reducible rfl))))
    (try simp only [Act.put, nA, nB, nC])
    refine wpList_val (v := ?_) rfl ?_ ?_
    rotate_left
    · refine Eq.trans (run_op_eqlVec Tryz.underlying43 (by kernel_rfl) (.tmp 11) (.tmp 12) (by rfl) (by rfl) (g := fun _ => 0) (by rw [← zq4]; rfl) EZ.out) ?_; with_reducible rfl
    (try simp only [Act.put, nA, nB, nC])
    refine wpList_nil ?_
    have B1 := H2.out.res
    go_wp2_with fail
    refine (rqone_any _).mono ?_; rintro e w3 ⟨rfl, hb3⟩
    have R3 := B1.below hb3
    go_wp2_with (refine wpList_store_row rfl 43 _ _ rfl (w.heap.size + 1) _ rfl rfl 43 _ (R3) (irq.trans (by rw [arrv_size])) (by rw [arrv_size, arrv_size]) (oneCell_arrv _ _) ?_)
    refine bodyPost_ret (results_cell_row Tryz.results30 _ _ (w.heap.size + 1) 43 (arrv 4 oneQ) (0, 0) _ rfl (setRow_heap _ _ _ _ _ _ R3) Tryz.underlying43 rfl (irq.trans (by rw [arrv_size]))) rfl ⟨by rw [E1.out.1], ?_⟩
    rw [E1.out.2]
    exact (H2.out.upd.then hb3).then' (below_row (Below.refl _ _) (by omega) _)
  · have hz2 : zer4 (satA A) = false := by simpa using hz
    rw [hz2] at EZ
    have e1 : uniV A = uniT (uniT (satA A)) := by unfold uniV; rw [if_neg hz]
    have e2 : (h || uniH A) = (h || orB (fun i => satH (A i)) 4 || turH (satA A) 2) := by unfold uniH; rw [if_neg hz, ← Bool.or_assoc]; simp [turH, turN]
    have EZ := Lib.hid EZ
    have E1 := Lib.hid (And.intro e1 e2)
    clear hz e1 e2 S2 hz2
    refine wp_region_lit ?_
    refine wpList_val (v := ?_) rfl ?_ ?_
    rotate_left
    · refine Eq.trans (run_load_row 43 (.tmp 3) (by rfl) (w.heap.size) (by rfl) _ _ _ _ (P2) Tryz.underlying43 rfl (irq.trans (by rw [arrv_size]))) ?_; with_reducible rfl
    (try simp only [Act.put, nA, nB, nC])
    refine wpList_val (v := ?_) rfl ?_ ?_
    rotate_left
    · (go_simp; (try (first | with_reducible rfl | (constructor <;> with_reducible rfl))))
    (try simp only [Act.put, nA, nB, nC])
    refine wpList_val (v := ?_) rfl ?_ ?_
    rotate_left
    · refine Eq.trans (run_op_eqlVec Tryz.underlying43 (by kernel_rfl) (.tmp 11) (.tmp 12) (by rfl) (by rfl) (g := fun _ => 0) (by rw [← zq4]; rfl) EZ.out) ?_; with_reducible rfl
    (try simp only [Act.put, nA, nB, nC])
    refine wpList_nil ?_
    obtain ⟨H1, hH1⟩ : ∃ H1, (h || orB (fun i => satH (A i)) 4) = H1 := ⟨_, rfl⟩
    obtain ⟨B, hB⟩ : ∃ B, satA A = B := ⟨_, rfl⟩
    rw [hH1, hB] at H2
    have E2 : Hid (uniV A = turN B 2 ∧ (h || uniH A) = (H1 || turH B 2)) := by rw [← hB, ← hH1]; exact E1
    clear hH1 hB EZ P2
    go_wp2_with fail
    go_loopw [5] (fun i wr => ∃ n : Nat, n ≤ 2 ∧ i = .int .i64 n ∧ Hid (RquR c (H1 || turH B n) (turN B n) w wr)) (fun i _ => 2 - (intOf i).toNat)
    case atStart => exact ⟨0, by omega, rfl, by rw [show (H1 || turH B 0) = H1 from by simp [turH]]; exact H2.out⟩
    case round =>
      obtain ⟨n, hn, rfl, R⟩ := hrel
      by_cases hlt : n < 2
      · have d1 : decide ((n : Int) < 2) = true := by simp; omega
        obtain ⟨G, hG⟩ : ∃ G, turN B n = G := ⟨_, rfl⟩
        obtain ⟨H3, hH3⟩ : ∃ H3, (H1 || turH B n) = H3 := ⟨_, rfl⟩
        have hstep : turN B (n + 1) = uniT G ∧ (H1 || turH B (n + 1)) = (H3 || uniTH G) := by rw [← hG, ← hH3]; exact ⟨rfl, by simp [turH, Bool.or_assoc]⟩
        have HST := Lib.hid hstep
        rw [hG, hH3] at R
        clear hG hH3 hstep H2
        have rc := R.out.upd.cellc HC.out
        have rf := (R.out.upd.frozen hcb).trans HF.out
        have HY := Lib.hid (fun (x : World) k1 k2 k3 => rhypot_any c H3 G wr.heap.size 0 4 4 x k1 k2 (by decide) k3)
        have B0 := R.out.blk
        have RD := Lib.hid (RquR.mk (R.out.upd.drew.alloc (.cells #[.int .i64 (G 0), .int .i64 (G 1), .int .i64 (G 2), .int .i64 (G 3)] 2)) (Blk.alloc (show Blk wr.drew w.heap.size 43 4 G from R.out.blk) (.cells #[.int .i64 (G 0), .int .i64 (G 1), .int .i64 (G 2), .int .i64 (G 3)] 2)) (Blk.alloc (show Blk wr.drew (w.heap.size + 1) 43 4 (fun _ => 0) from R.out.res) (.cells #[.int .i64 (G 0), .int .i64 (G 1), .int .i64 (G 2), .int .i64 (G 3)] 2)))
        go_upto_region 7 with fail
        refine wp_region_M (fun w' => Blk w' w.heap.size 43 4 G) 13 (by kernel_rfl) ?_ (fun hHeld => ?_)
        · exact B0
        refine wpAnyM_take 0 (v := ?_) rfl (by kernel_rfl) (fun _ _ _ h => h) (Or.inl ⟨by rfl, ?_⟩) (by assumption) ?_
        rotate_left
        · (intro wx hSw; (try dsimp only at hSw); go_simp; (try with_reducible rfl))
        (try simp only [Act.put, nA, nB, nC])
        refine wpAnyM_take 1 (v := ?_) rfl (by kernel_rfl) (fun _ _ _ h => h) (Or.inl ⟨by rfl, ?_⟩) (by assumption) ?_
        rotate_left
        · (intro wx hSw; (try dsimp only at hSw); go_simp; (try with_reducible rfl))
        (try simp only [Act.put, nA, nB, nC])
        refine wpAnyM_take 2 (v := ?_) rfl (by kernel_rfl) (fun _ _ _ h => h) (Or.inl ⟨by rfl, ?_⟩) (by assumption) ?_
        rotate_left
        · (intro wx hSw; (try dsimp only at hSw); go_simp; (try with_reducible rfl))
        (try simp only [Act.put, nA, nB, nC])
        refine wpAnyM_take 3 (v := ?_) rfl (by kernel_rfl) (fun _ _ _ h => h) (Or.inl ⟨by rfl, ?_⟩) (by assumption) ?_
        rotate_left
        · (intro wx hSw; (try dsimp only at hSw); go_simp; (try with_reducible rfl))
        (try simp only [Act.put, nA, nB, nC])
        refine wpAnyM_take 4 (v := ?_) rfl (by kernel_rfl) (fun _ _ _ h => h) (Or.inl ⟨by rfl, ?_⟩) (by assumption) ?_
        rotate_left
        · (intro wx hSw; have q0 := Blk.cell (i := 0) hSw (by decide); go_simp; (try with_reducible rfl))
        (try simp only [Act.put, nA, nB, nC])
        refine wpAnyM_take 5 (v := ?_) rfl (by kernel_rfl) (fun _ _ _ h => h) (Or.inl ⟨by rfl, ?_⟩) (by assumption) ?_
        rotate_left
        · (intro wx hSw; (try dsimp only at hSw); go_simp; (try with_reducible rfl))
        (try simp only [Act.put, nA, nB, nC])
        refine wpAnyM_take 6 (v := ?_) rfl (by kernel_rfl) (fun _ _ _ h => h) (Or.inl ⟨by rfl, ?_⟩) (by assumption) ?_
        rotate_left
        · (intro wx hSw; have q0 := Blk.cell (i := 1) hSw (by decide); go_simp; (try with_reducible rfl))
        (try simp only [Act.put, nA, nB, nC])
        refine wpAnyM_take 7 (v := ?_) rfl (by kernel_rfl) (fun _ _ _ h => h) (Or.inl ⟨by rfl, ?_⟩) (by assumption) ?_
        rotate_left
        · (intro wx hSw; (try dsimp only at hSw); go_simp; (try with_reducible rfl))
        (try simp only [Act.put, nA, nB, nC])
        refine wpAnyM_take 8 (v := ?_) rfl (by kernel_rfl) (fun _ _ _ h => h) (Or.inl ⟨by rfl, ?_⟩) (by assumption) ?_
        rotate_left
        · (intro wx hSw; have q0 := Blk.cell (i := 2) hSw (by decide); go_simp; (try with_reducible rfl))
        (try simp only [Act.put, nA, nB, nC])
        refine wpAnyM_take 9 (v := ?_) rfl (by kernel_rfl) (fun _ _ _ h => h) (Or.inl ⟨by rfl, ?_⟩) (by assumption) ?_
        rotate_left
        · (intro wx hSw; (try dsimp only at hSw); go_simp; (try with_reducible rfl))
        (try simp only [Act.put, nA, nB, nC])
        refine wpAnyM_take 10 (v := ?_) rfl (by kernel_rfl) (fun _ _ _ h => h) (Or.inl ⟨by rfl, ?_⟩) (by assumption) ?_
        rotate_left
        · (intro wx hSw; have q0 := Blk.cell (i := 3) hSw (by decide); go_simp; (try with_reducible rfl))
        (try simp only [Act.put, nA, nB, nC])
        refine wpAnyM_oneS 11 rfl (by kernel_rfl) (fun K hK => ?_)
        go_simp
        clear hHeld
        refine hK.out _ _ ?_ (fun hHeld => ?_)
        · exact RD.out.blk
        clear hK K
        (try simp only [Act.put, nA, nB, nC])
        refine wpAnyM_oneS 12 rfl (by kernel_rfl) (fun K hK => ?_)
        go_simp
        (refine (HY.out _ (RD.out.upd.cellc HC.out) ((RD.out.upd.frozen hcb).trans HF.out) (rq_slc wr.drew G 2)).mono ?_); rintro e w2 ⟨rfl, hu2⟩; have R2 := Lib.hid (RD.out.upd' hcb hu2)
        (try dsimp only)
        (try simp only [Act.put, nA, nB, nC])
        clear hHeld
        refine hK.out _ _ ?_ (fun hHeld => ?_)
        · exact R2.out.blk
        clear hK K
        (try simp only [Act.put, nA, nB, nC])
        refine wpAnyM_one 13 rfl (by kernel_rfl) (fun K hK => ?_)
        go_simp
        refine hK.out _ _ (.inl (by kernel_rfl)) (fun _ => ?_)
        clear hK K
        (try simp only [Act.put, nA, nB, nC])
        refine wpAnyM_done (by kernel_rfl) ?_ _
        (try clear hHeld)
        obtain ⟨M, hM⟩ : ∃ M, hypV G 4 = M := ⟨_, rfl⟩
        obtain ⟨H4, hH4⟩ : ∃ H4, (H3 || hypH G 4) = H4 := ⟨_, rfl⟩
        rw [hM]
        rw [hH4] at R2
        have HM := Lib.hid (And.intro hM hH4)
        clear hM hH4 hu2 HY R rc rf B0 RD
        go_wp2_with fail
        go_loopw [7] (fun i wr => ∃ k : Nat, k ≤ 4 ∧ i = .int .i64 k ∧ Hid (RquR c (H4 || orB (fun i => divH (G i) M 30) k) (turK G M k) w wr)) (fun i _ => 4 - (intOf i).toNat)
        case atStart =>
          refine ⟨0, by omega, rfl, ?_⟩
          rw [show (H4 || orB (fun i => divH (G i) M 30) 0) = H4 from by simp [orB]]
          exact ⟨R2.out.upd, R2.out.blk.congr fun i hi => by simp [turK], R2.out.res⟩
        case round =>
          obtain ⟨k, hk, rfl, R⟩ := hrel
          by_cases hlt4 : k < 4
          · have rc := R.out.upd.cellc HC.out
            have rf := (R.out.upd.frozen hcb).trans HF.out
            have b0 := R.out.blk.cell (i := k) (by omega)
            have hv : turK G M k k = G k := by simp [turK]
            rw [hv] at b0
            have DV := Lib.hid (rd_any c _ (G k) M wr.drew (by exact rc) (by exact rf))
            have k0 : (0 : Int) ≤ (k : Int) := Int.natCast_nonneg _
            have k1 : (k : Int) < 4 := by omega
            have d4 : decide ((k : Int) < 4) = true := by simp; omega
            have RD := Lib.hid (RquR.mk (w := w) R.out.upd.drew R.out.blk R.out.res)
            clear hv rc rf
            go_upto_region 11 with fail
            refine wp_region_M (fun w' => w'.cell? ⟨w.heap.size, k, none⟩ = some (.int .i64 (G k))) 10 (by kernel_rfl) ?_ (fun hHeld => ?_)
            · exact b0
            refine wpAnyM_take 0 (v := ?_) rfl (by kernel_rfl) (fun _ _ _ h => h) (Or.inl ⟨by rfl, ?_⟩) (by assumption) ?_
            rotate_left
            · (intro wx hSw; (try dsimp only at hSw); go_simp; (try with_reducible rfl))
            (try simp only [Act.put, nA, nB, nC])
            refine wpAnyM_take 1 (v := ?_) rfl (by kernel_rfl) (fun _ _ _ h => h) (Or.inl ⟨by rfl, ?_⟩) (by assumption) ?_
            rotate_left
            · (intro wx hSw; (try dsimp only at hSw); go_simp; (try with_reducible rfl))
            (try simp only [Act.put, nA, nB, nC])
            refine wpAnyM_take 2 (v := ?_) rfl (by kernel_rfl) (fun _ _ _ h => h) (Or.inl ⟨by rfl, ?_⟩) (by assumption) ?_
            rotate_left
            · (intro wx hSw; (try dsimp only at hSw); go_simp; (try with_reducible rfl))
            (try simp only [Act.put, nA, nB, nC])
            refine wpAnyM_take 3 (v := ?_) rfl (by kernel_rfl) (fun _ _ _ h => h) (Or.inl ⟨by rfl, ?_⟩) (by assumption) ?_
            rotate_left
            · (intro wx hSw; (try dsimp only at hSw); go_simp; (try with_reducible rfl))
            (try simp only [Act.put, nA, nB, nC])
            refine wpAnyM_take 4 (v := ?_) rfl (by kernel_rfl) (fun _ _ _ h => h) (Or.inl ⟨by rfl, ?_⟩) (by assumption) ?_
            rotate_left
            · (intro wx hSw; (try dsimp only at hSw); go_simp; (try with_reducible rfl))
            (try simp only [Act.put, nA, nB, nC])
            refine wpAnyM_take 5 (v := ?_) rfl (by kernel_rfl) (fun _ _ _ h => h) (Or.inl ⟨by rfl, ?_⟩) (by assumption) ?_
            rotate_left
            · (intro wx hSw; (try dsimp only at hSw); go_simp; (first | rw [if_pos (by omega)] | rw [if_pos ⟨by omega, by omega⟩] | skip); (try with_reducible rfl))
            (try simp only [Act.put, nA, nB, nC])
            refine wpAnyM_take 6 (v := ?_) rfl (by kernel_rfl) (fun _ _ _ h => h) (Or.inl ⟨by rfl, ?_⟩) (by assumption) ?_
            rotate_left
            · (intro wx hSw; (try dsimp only at hSw); go_simp; (try with_reducible rfl))
            (try simp only [Act.put, nA, nB, nC])
            refine wpAnyM_take 7 (v := ?_) rfl (by kernel_rfl) (fun _ _ _ h => h) (Or.inl ⟨by rfl, ?_⟩) (by assumption) ?_
            rotate_left
            · (intro wx hSw; (try dsimp only at hSw); go_simp; (try with_reducible rfl))
            (try simp only [Act.put, nA, nB, nC])
            refine wpAnyM_oneS 8 rfl (by kernel_rfl) (fun K hK => ?_)
            go_simp
            (refine DV.out.mono ?_); rintro e w3 ⟨rfl, hu3⟩; have R3 := Lib.hid (RD.out.upd' hcb hu3); have b1 : w3.cell? ⟨w.heap.size, k, none⟩ = some (.int .i64 (G k)) := (by have h := R3.out.blk.cell (i := k) (by omega); simpa [turK] using h); have b2 := R3.out.blk.free k; clear hu3
            (try dsimp only)
            (try simp only [Act.put, nA, nB, nC])
            clear hHeld
            refine hK.out _ _ ?_ (fun hHeld => ?_)
            · exact b1
            clear hK K
            (try simp only [Act.put, nA, nB, nC])
            refine wpAnyM_take 9 (v := ?_) rfl (by kernel_rfl) (fun _ _ _ h => h) (Or.inl ⟨by rfl, ?_⟩) (by assumption) ?_
            rotate_left
            · (intro wx hSw; (try dsimp only at hSw); go_simp; (first | rw [if_pos (by omega)] | rw [if_pos ⟨by omega, by omega⟩] | skip); (try with_reducible rfl))
            (try simp only [Act.put, nA, nB, nC])
            refine wpAnyM_one 10 rfl (by kernel_rfl) (fun K hK => ?_)
            go_simp
            refine hK.out _ _ (.inl (by kernel_rfl)) (fun _ => ?_)
            clear hK K
            (try simp only [Act.put, nA, nB, nC])
            refine wpAnyM_done (by kernel_rfl) ?_ _
            (try clear hHeld)
            clear DV R RD
            go_wp2_with fail
            go_roundw
            case rel =>
              refine ⟨k + 1, by omega, by go_num, ⟨?_, ?_, ?_⟩⟩
              · rw [show (H4 || orB (fun i => divH (G i) M 30) (k + 1)) = (H4 || orB (fun i => divH (G i) M 30) k || divH (G k) M 30) from by simp [orB, Bool.or_assoc]]
                exact R3.out.upd.setCell (Nat.le_refl _) _
              · refine (R3.out.blk.set _ _).congr fun i hi => ?_
                simp only [Go.Proofs.YtgfklheepkgedaaGreat.upd, turK]
                by_cases h1 : i = k
                · subst h1; simp
                · rw [if_neg h1]; split <;> split <;> first | rfl | omega
              · exact R3.out.res.other (by simp) _
            case measure => simp [intOf]; omega
          · have hk4 : k = 4 := by omega
            subst hk4
            rw [show ((4 : Nat) : Int) = 4 from rfl]
            clear hlt4 hk
            go_wp2_with fail
            go_roundw
            case rel =>
              refine ⟨n + 1, by omega, by go_num, ?_⟩
              rw [HST.out.1, HST.out.2]
              have e3 : (H3 || uniTH G) = (H4 || orB (fun i => divH (G i) M 30) 4) := by rw [← HM.out.2, ← HM.out.1]; simp [uniTH, Bool.or_assoc]
              rw [e3]
              exact ⟨R.out.upd, R.out.blk.congr fun i hi => by simp only [turK, uniT, HM.out.1]; rw [if_pos hi], R.out.res⟩
            case measure => simp [intOf]; omega
      · have hn2 : n = 2 := by omega
        subst hn2
        rw [show ((2 : Nat) : Int) = 2 from rfl]
        have B0 := R.out.blk
        have B1 := R.out.res
        have U := Lib.hid R.out.upd
        clear R hlt hn H2
        go_wp2_with (first | (refine wpList_load_row rfl 43 _ rfl (w.heap.size) rfl 43 _ (0, 0) _ (B0) Tryz.underlying43 rfl (irq.trans (by rw [arrv_size])) ?_) | (refine wpList_store_row rfl 43 _ _ rfl (w.heap.size + 1) _ rfl rfl 43 _ (B1) (irq.trans (by rw [arrv_size])) (by rw [arrv_size, arrv_size]) (oneCell_arrv _ _) ?_))
        refine bodyPost_ret (results_cell_row Tryz.results30 _ _ (w.heap.size + 1) 43 (arrv 4 (turN B 2)) (0, 0) _ rfl (setRow_heap _ _ _ _ _ _ B1) Tryz.underlying43 rfl (irq.trans (by rw [arrv_size]))) rfl ⟨by rw [E2.out.1], ?_⟩
        rw [E2.out.2]
        exact U.out.then' (below_row (Below.refl _ _) (by omega) _)
end Go.Proofs.YtgfklheepkgedaaGreat
/- The reference's Cos, and its rotation of a heading. -/
namespace Go.Proofs.YtgfklheepkgedaaGreat
open Go.RowKit
set_option maxRecDepth 100000
/-- The blocks of astrolaberef4.FromYaw. -/
structure RfyR (c : Addr) (h : Bool) (w wr : World) : Prop where
  upd : Upd c h w wr
  r : Blk wr w.heap.size 43 4 (fun _ => 0)
  cell : wr.cell? c = some (.bool h)
  free : wr.frozen? c = false
  cb : c.block < w.heap.size
theorem RfyR.upd' {c : Addr} {h h' : Bool} {w wr w' : World} (s : RfyR c h w wr) (u : Upd c h' wr w') : RfyR c h' w w' := by
  have hcb := s.cb
  exact ⟨s.upd.trans u, s.r.upd u (by omega), u.cellc s.cell, (u.frozen (World.block_lt_of_cell? _ _ s.cell)).trans s.free, s.cb⟩
end Go.Proofs.YtgfklheepkgedaaGreat
/- The document's jumps (chapter 26): a number so often; no jump. -/
namespace Go.Proofs.YtgfklheepkgedaaGreat
open Go.RowKit
set_option maxRecDepth 100000
theorem irdl : (Tryz.prog.info? 46).map (·.size) = some 10 := by kernel_rfl
open Go in
theorem run_build_rdl {o : Oper} {ev : Operand → Value} {w : World} (x : Operand) (ho : o.op = .build 46 #[(0, x)]) {f : Nat → Int} (hx : ev x = .agg (arrv 4 f)) :
    (execOp ev o).run Tryz.prog w = .ok (.value (.agg (arrv 10 (fun i => if i < 4 then f i else 0)))) w := by
  unfold execOp
  simp only [ho, List.map_toArray, List.map_cons, List.map_nil, hx]
  kernel_rfl
theorem rnothing_any (w : World) : Calls Tryz.prog 28 #[] w fun e w' => e = .returned (.agg (arrv 10 dl0)) ∧ Below w.heap.size w w' := by
  have R0 := Lib.hid (show Blk (w.alloc (.cells #[.int .i64 0, .int .i64 0, .int .i64 0, .int .i64 0, .int .i64 0, .int .i64 0, .int .i64 0, .int .i64 0, .int .i64 0, .int .i64 0] 46)) w.heap.size 46 10 (fun _ => 0) by rw [zdl]; exact Blk.new _ _ _ _)
  have B0 := Lib.hid (show Below w.heap.size w (w.alloc (.cells #[.int .i64 0, .int .i64 0, .int .i64 0, .int .i64 0, .int .i64 0, .int .i64 0, .int .i64 0, .int .i64 0, .int .i64 0, .int .i64 0] 46)) by (repeat (first | with_reducible exact Below.refl _ _ | with_reducible apply Below.drew | (with_reducible refine below_drewN ?_ _) | (with_reducible refine Below.alloc ?_ (by (try simp) <;> omega) _) | (with_reducible refine Below.setCell ?_ (by (try simp) <;> omega) _))))
  have E0 := Lib.hid (show arrv 10 (fun i => if i < 4 then oneQ i else 0) = arrv 10 dl0 from arrv_congr (by decide))
  go_enter Tryz.func28, Tryz.ntmps28
  go_upto_region 1 with fail
  generalize w.alloc (.cells #[.int .i64 0, .int .i64 0, .int .i64 0, .int .i64 0, .int .i64 0, .int .i64 0, .int .i64 0, .int .i64 0, .int .i64 0, .int .i64 0] 46) = W0 at *
  refine wp_region_lit ?_
  refine wpList_step (fun K hK => ?_)
  go_simp
  (refine (rqone_any _).mono ?_); rintro e w1 ⟨rfl, hb⟩; have R1 := Lib.hid (R0.out.below hb); have B1 := Lib.hid (Below.after B0.out hb); clear hb R0 B0
  (try dsimp only)
  (try simp only [Act.put, nA, nB, nC])
  refine hK _ _ ?_
  clear hK K
  refine wpList_val (v := ?_) rfl ?_ ?_
  rotate_left
  · (refine Eq.trans (run_build_rdl (.tmp 1) (by rfl) (by rfl)) ?_; with_reducible rfl)
  (try simp only [Act.put, nA, nB, nC])
  refine wpList_done (w' := ?_) rfl ?_ ?_
  rotate_left
  · (refine Eq.trans (run_store_row 46 (.tmp 0) (.tmp 2) (by rfl) (w.heap.size) (by rfl) (by rfl) (R1.out) (irdl.trans rfl)) ?_; with_reducible rfl)
  (try simp only [Act.put, nA, nB, nC])
  refine wpList_nil ?_
  rw [E0.out]
  have D1 := Lib.hid (R1.out.setRow dl0)
  have B2 := Lib.hid (below_row B1.out (Nat.le_refl _) (arrv 10 dl0))
  generalize w1.setRow w.heap.size (arrv 10 dl0) = W2 at *
  go_wp2_with fail
  refine bodyPost_ret (results_cell_row Tryz.results28 _ _ w.heap.size 46 (arrv 10 dl0) (0, 0) _ rfl D1.out Tryz.underlying46 rfl (irdl.trans (by rw [arrv_size]))) rfl ⟨rfl, B2.out⟩
end Go.Proofs.YtgfklheepkgedaaGreat
/- The reference's sum of one number of all jumps. -/
namespace Go.Proofs.YtgfklheepkgedaaGreat
open Go.RowKit
open Go
set_option maxRecDepth 100000
/-- The flags of the first n. -/
def alB (L : Nat → Nat → Int) (k : Nat) (pos : Bool) : Nat → Bool | 0 => false | i + 1 => alB L k pos i || satH (L i (4 + k)) || (pos && satH (L i (7 + k)))
def alC (L : Nat → Nat → Int) (k : Nat) (pos : Bool) : Nat → Int := fun i => L i ((if pos then 7 else 4) + k)
theorem and30 (s : Int) : Go.bits .and .i64 s 1073741823 = s % 1073741824 := by
  have h2 : (BitVec.ofInt 64 (1073741823 : Int)).toNat = 1073741823 := by decide
  show IntKind.i64.wrap ((BitVec.ofInt 64 s &&& BitVec.ofInt 64 (1073741823 : Int)).toNat : Int) = _
  rw [BitVec.toNat_and, h2, BitVec.toNat_ofInt]
  rw [show ∀ x : Nat, x &&& 1073741823 = x % 1073741824 from fun x => by rw [show (1073741823 : Nat) = 2 ^ 30 - 1 from rfl, Nat.and_two_pow_sub_one_eq_mod]]
  have e : (((s % ((2 ^ 64 : Nat) : Int)).toNat % 1073741824 : Nat) : Int) = s % 1073741824 := by
    rw [show (((2 ^ 64 : Nat) : Int)) = 18446744073709551616 by decide]
    omega
  rw [e]
  exact IntWalk.i64_in _ (by omega)
def AlR (c : Addr) (b : Bool) (w wr : World) : Prop := Upd c b w wr ∧ wr.cell? c = some (.bool b) ∧ wr.frozen? c = false
theorem AlR.sat {c : Addr} {b : Bool} {w wr : World} (s : AlR c b w wr) (b' : Bool) : AlR c b' w (wr.setCell c (.bool b')) := by
  have u := Upd.set c b' wr
  exact ⟨s.1.trans u, u.cellc s.2.1, (u.frozen (World.block_lt_of_cell? _ _ s.2.1)).trans s.2.2⟩
theorem AlR.drew {c : Addr} {b : Bool} {w wr : World} (s : AlR c b w wr) : AlR c b w wr.drew := ⟨s.1.drew, s.2.1, s.2.2⟩
set_option maxHeartbeats 8000000 in
theorem rall_any (c : Addr) (h : Bool) (q : Option Addr) (pb po n cp : Nat) (L : Nat → Nat → Int) (k : Nat) (pos : Bool) (w : World) (hc : w.cell? c = some (.bool h)) (hf : w.frozen? c = false) (hn : n ≤ 100) (hk : k < 3) (hq : 0 < n → q = some ⟨pb, po, none⟩)
    (hL : ∀ i, i < n → ∀ j, j < 10 → w.cell? ⟨pb, po + i * 10 + j, none⟩ = some (.int .i64 (L i j))) :
    Calls Tryz.prog 38 #[.pointer (some c), .slice q n cp, .int .i64 (k : Int), .bool pos] w fun e w' =>
      e = .returned (.int .i64 (satV (sumS (alC L k pos) n))) ∧ Upd c (h || alB L k pos n || satH (sumS (alC L k pos) n)) w w' := by
  have HC := Lib.hid (And.intro hc hf)
  have HQ := Lib.hid hq
  have HL := Lib.hid hL
  have HK := Lib.hid (And.intro hn hk)
  clear hc hf hq hL
  go_enter Tryz.func38, Tryz.ntmps38
  go_upto_region 4 with fail
  go_loopw [9, 10, 11] (fun v0 v1 i wr => ∃ m : Nat, m ≤ n ∧ v0 = .int .i64 (hiS (alC L k pos) m) ∧ v1 = .int .i64 (loS (alC L k pos) m) ∧ i = .int .i64 m ∧ Hid (AlR c (h || alB L k pos m) w wr)) (fun _ _ i _ => n - (intOf i).toNat)
  case atStart => exact ⟨0, Nat.zero_le _, rfl, rfl, by go_num, Lib.hid (by rw [show (h || alB L k pos 0) = h by simp [alB]]; exact ⟨Upd.refl HC.out.1, HC.out.1, HC.out.2⟩)⟩
  case round =>
    obtain ⟨m, hm, rfl, rfl, rfl, R⟩ := hrel
    have m0 : (0 : Int) ≤ (m : Int) := Int.natCast_nonneg _
    by_cases hlt : m < n
    · have d1 : decide (m < n) = true := by simpa using hlt
      have d2 : decide ((m : Int) < (n : Int)) = true := by simpa using hlt
      have k1 : (m : Int) < (n : Int) := by omega
      have k2 : (0 : Int) ≤ (k : Int) := Int.natCast_nonneg _
      have k3 : (k : Int) < 3 := by have := HK.out.2; omega
      obtain rfl := HQ.out (by omega)
      have CL := Lib.hid (fun (j : Nat) (hj : j < 10) (x : World) (b : Bool) (u : Upd c b w x) => show x.cell? ⟨pb, po + m * 10 + j, none⟩ = some (.int .i64 (L m j)) from by
        have hcell := HL.out m hlt j hj
        have hpl := World.block_lt_of_cell? _ _ hcell
        have hne : (⟨pb, po + m * 10 + j, none⟩ : Addr) ≠ c := fun e => by rw [e, HC.out.1] at hcell; cases hcell
        exact (u.cell hpl (Ne.symm hne)).trans hcell)
      have v1 := CL.out (4 + k) (by omega) _ _ R.out.1
      have v2 := CL.out (7 + k) (by omega) _ _ R.out.1
      rw [← Nat.add_assoc] at v1 v2
      obtain ⟨x1, hx1⟩ : ∃ x, L m (4 + k) = x := ⟨_, rfl⟩
      obtain ⟨x2, hx2⟩ : ∃ x, L m (7 + k) = x := ⟨_, rfl⟩
      rw [hx1] at v1
      rw [hx2] at v2
      go_upto_region 6 with fail
      have HS := Lib.hid R.out.drew
      clear R v1 v2
      (try simp only [Act.put])
      refine wp_region_M (fun w' => w'.cell? ⟨pb, po + m * 10 + 4 + k, none⟩ = some (.int .i64 x1)) 11 (by kernel_rfl) ?_ (fun hHeld => ?_)
      · (have q := CL.out (4 + k) (by omega) _ _ HS.out.1; rw [← Nat.add_assoc, hx1] at q; exact q)
      refine wpAnyM_take 0 (v := ?_) rfl (by kernel_rfl) (fun _ _ _ h => h) (Or.inl ⟨by rfl, ?_⟩) (by assumption) ?_
      rotate_left
      · (intro wx hSw; (try dsimp only at hSw); go_simp; (try with_reducible rfl))
      (try simp only [Act.put, nA, nB, nC])
      refine wpAnyM_take 1 (v := ?_) rfl (by kernel_rfl) (fun _ _ _ h => h) (Or.inl ⟨by rfl, ?_⟩) (by assumption) ?_
      rotate_left
      · (intro wx hSw; (try dsimp only at hSw); go_simp; (try with_reducible rfl))
      (try simp only [Act.put, nA, nB, nC])
      refine wpAnyM_take 2 (v := ?_) rfl (by kernel_rfl) (fun _ _ _ h => h) (Or.inl ⟨by rfl, ?_⟩) (by assumption) ?_
      rotate_left
      · (intro wx hSw; (try dsimp only at hSw); go_simp; (try with_reducible rfl))
      (try simp only [Act.put, nA, nB, nC])
      refine wpAnyM_take 3 (v := ?_) rfl (by kernel_rfl) (fun _ _ _ h => h) (Or.inl ⟨by rfl, ?_⟩) (by assumption) ?_
      rotate_left
      · (intro wx hSw; (try dsimp only at hSw); go_simp; (try with_reducible rfl))
      (try simp only [Act.put, nA, nB, nC])
      refine wpAnyM_take 4 (v := ?_) rfl (by kernel_rfl) (fun _ _ _ h => h) (Or.inl ⟨by rfl, ?_⟩) (by assumption) ?_
      rotate_left
      · (intro wx hSw; (try dsimp only at hSw); go_simp; (try with_reducible rfl))
      (try simp only [Act.put, nA, nB, nC])
      refine wpAnyM_take 5 (v := ?_) rfl (by kernel_rfl) (fun _ _ _ h => h) (Or.inl ⟨by rfl, ?_⟩) (by assumption) ?_
      rotate_left
      · (intro wx hSw; (try dsimp only at hSw); go_simp; (try with_reducible rfl))
      (try simp only [Act.put, nA, nB, nC])
      refine wpAnyM_take 6 (v := ?_) rfl (by kernel_rfl) (fun _ _ _ h => h) (Or.inl ⟨by rfl, ?_⟩) (by assumption) ?_
      rotate_left
      · (intro wx hSw; (try dsimp only at hSw); go_simp; (try with_reducible rfl))
      (try simp only [Act.put, nA, nB, nC])
      refine wpAnyM_take 7 (v := ?_) rfl (by kernel_rfl) (fun _ _ _ h => h) (Or.inl ⟨by rfl, ?_⟩) (by assumption) ?_
      rotate_left
      · (intro wx hSw; (try dsimp only at hSw); go_simp; (try with_reducible rfl))
      (try simp only [Act.put, nA, nB, nC])
      refine wpAnyM_take 8 (v := ?_) rfl (by kernel_rfl) (fun _ _ _ h => h) (Or.inl ⟨by rfl, ?_⟩) (by assumption) ?_
      rotate_left
      · (intro wx hSw; (try dsimp only at hSw); go_simp; (try with_reducible rfl))
      (try simp only [Act.put, nA, nB, nC])
      refine wpAnyM_take 9 (v := ?_) rfl (by kernel_rfl) (fun _ _ _ h => h) (Or.inl ⟨by rfl, ?_⟩) (by assumption) ?_
      rotate_left
      · (intro wx hSw; have q := hSw; go_simp; (try with_reducible rfl))
      (try simp only [Act.put, nA, nB, nC])
      refine wpAnyM_oneS 10 rfl (by kernel_rfl) (fun K hK => ?_)
      go_simp
      (refine (rsat_any c _ x1 _ HS.out.2.1 HS.out.2.2).mono ?_); rintro e w1 ⟨rfl, rfl⟩; have HS2 := Lib.hid (HS.out.sat (h || alB L k pos m || satH x1)); clear HS; have HS := HS2; clear HS2
      (try dsimp only)
      (try simp only [Act.put, nA, nB, nC])
      clear hHeld
      refine hK.out _ _ ?_ (fun hHeld => ?_)
      · (have q := CL.out (4 + k) (by omega) _ _ HS.out.1; rw [← Nat.add_assoc, hx1] at q; exact q)
      clear hK K
      (try simp only [Act.put, nA, nB, nC])
      refine wpAnyM_one 11 rfl (by kernel_rfl) (fun K hK => ?_)
      go_simp
      refine hK.out _ _ (.inl (by kernel_rfl)) (fun _ => ?_)
      clear hK K
      (try simp only [Act.put, nA, nB, nC])
      refine wpAnyM_done (by kernel_rfl) ?_ _
      have HS2 : Hid (AlR c (h || alB L k pos m || satH x1) w (wr.setCell c (.bool (h || alB L k pos m || satH x1))).drew) := HS
      clear HS
      have HS := HS2
      clear HS2
      generalize (wr.setCell c (.bool (h || alB L k pos m || satH x1))).drew = W1 at *
      have v2 := CL.out (7 + k) (by omega) _ _ HS.out.1
      rw [← Nat.add_assoc, hx2] at v2
      have b1 := satV_bd x1
      have b2 := satV_bd x2
      have hb := hl_bd (alC L k pos) m
      have mm : (m : Int) ≤ 100 := by have := HK.out.1; omega
      cases pos with
      | false =>
        have E := Lib.hid (show hiS (alC L k false) (m + 1) = hiS (alC L k false) m + satV x1 / 1073741824 ∧ loS (alC L k false) (m + 1) = loS (alC L k false) m + satV x1 % 1073741824 ∧ (h || alB L k false m || satH x1) = (h || alB L k false (m + 1)) from by
          rw [← hx1]
          refine ⟨rfl, rfl, ?_⟩
          simp [alB, Bool.or_assoc])
        have HX2 := Lib.hid hx2
        obtain ⟨a, ha⟩ : ∃ x, hiS (alC L k false) m = x := ⟨_, rfl⟩
        obtain ⟨b, hb'⟩ : ∃ x, loS (alC L k false) m = x := ⟨_, rfl⟩
        obtain ⟨s, hs⟩ : ∃ x, satV x1 = x := ⟨_, rfl⟩
        rw [ha, hb'] at hb E
        rw [hs] at b1 E
        rw [ha, hb', hs]
        have NS := Lib.hid hs
        clear hx1 hx2 ha hb' hs
        have an := and30 s
        have s0 : 0 ≤ s % 1073741824 := Int.emod_nonneg _ (by decide)
        have s1 : s % 1073741824 < 1073741824 := Int.emod_lt_of_pos _ (by decide)
        go_upto_region 5 with fail
        clear an
        go_wp2_with fail
        go_roundw
        case rel => exact ⟨m + 1, by omega, by rw [E.out.1], by rw [E.out.2.1], by go_num, by rw [← E.out.2.2]; exact HS⟩
        case measure => simp [intOf]; omega
      | true =>
        have E := Lib.hid (show hiS (alC L k true) (m + 1) = hiS (alC L k true) m + satV x2 / 1073741824 ∧ loS (alC L k true) (m + 1) = loS (alC L k true) m + satV x2 % 1073741824 ∧ (h || alB L k true m || satH x1 || satH x2) = (h || alB L k true (m + 1)) from by
          rw [← hx1, ← hx2]
          refine ⟨rfl, rfl, ?_⟩
          simp [alB, Bool.or_assoc])
        have HX2 := Lib.hid hx2
        obtain ⟨a, ha⟩ : ∃ x, hiS (alC L k true) m = x := ⟨_, rfl⟩
        obtain ⟨b, hb'⟩ : ∃ x, loS (alC L k true) m = x := ⟨_, rfl⟩
        obtain ⟨s, hs⟩ : ∃ x, satV x2 = x := ⟨_, rfl⟩
        rw [ha, hb'] at hb E
        rw [hs] at b2 E
        rw [ha, hb']
        have NS := Lib.hid hs
        clear hx1 hx2 ha hb' hs
        go_upto_region 8 with fail
        have HT := Lib.hid HS.out.drew
        clear HS
        (try simp only [Act.put])
        refine wp_region_M (fun w' => w'.cell? ⟨pb, po + m * 10 + 7 + k, none⟩ = some (.int .i64 x2)) 11 (by kernel_rfl) ?_ (fun hHeld => ?_)
        · (have q := CL.out (7 + k) (by omega) _ _ HT.out.1; rw [← Nat.add_assoc, HX2.out] at q; exact q)
        refine wpAnyM_take 0 (v := ?_) rfl (by kernel_rfl) (fun _ _ _ h => h) (Or.inl ⟨by rfl, ?_⟩) (by assumption) ?_
        rotate_left
        · (intro wx hSw; (try dsimp only at hSw); go_simp; (try with_reducible rfl))
        (try simp only [Act.put, nA, nB, nC])
        refine wpAnyM_take 1 (v := ?_) rfl (by kernel_rfl) (fun _ _ _ h => h) (Or.inl ⟨by rfl, ?_⟩) (by assumption) ?_
        rotate_left
        · (intro wx hSw; (try dsimp only at hSw); go_simp; (try with_reducible rfl))
        (try simp only [Act.put, nA, nB, nC])
        refine wpAnyM_take 2 (v := ?_) rfl (by kernel_rfl) (fun _ _ _ h => h) (Or.inl ⟨by rfl, ?_⟩) (by assumption) ?_
        rotate_left
        · (intro wx hSw; (try dsimp only at hSw); go_simp; (try with_reducible rfl))
        (try simp only [Act.put, nA, nB, nC])
        refine wpAnyM_take 3 (v := ?_) rfl (by kernel_rfl) (fun _ _ _ h => h) (Or.inl ⟨by rfl, ?_⟩) (by assumption) ?_
        rotate_left
        · (intro wx hSw; (try dsimp only at hSw); go_simp; (try with_reducible rfl))
        (try simp only [Act.put, nA, nB, nC])
        refine wpAnyM_take 4 (v := ?_) rfl (by kernel_rfl) (fun _ _ _ h => h) (Or.inl ⟨by rfl, ?_⟩) (by assumption) ?_
        rotate_left
        · (intro wx hSw; (try dsimp only at hSw); go_simp; (try with_reducible rfl))
        (try simp only [Act.put, nA, nB, nC])
        refine wpAnyM_take 5 (v := ?_) rfl (by kernel_rfl) (fun _ _ _ h => h) (Or.inl ⟨by rfl, ?_⟩) (by assumption) ?_
        rotate_left
        · (intro wx hSw; (try dsimp only at hSw); go_simp; (try with_reducible rfl))
        (try simp only [Act.put, nA, nB, nC])
        refine wpAnyM_take 6 (v := ?_) rfl (by kernel_rfl) (fun _ _ _ h => h) (Or.inl ⟨by rfl, ?_⟩) (by assumption) ?_
        rotate_left
        · (intro wx hSw; (try dsimp only at hSw); go_simp; (try with_reducible rfl))
        (try simp only [Act.put, nA, nB, nC])
        refine wpAnyM_take 7 (v := ?_) rfl (by kernel_rfl) (fun _ _ _ h => h) (Or.inl ⟨by rfl, ?_⟩) (by assumption) ?_
        rotate_left
        · (intro wx hSw; (try dsimp only at hSw); go_simp; (try with_reducible rfl))
        (try simp only [Act.put, nA, nB, nC])
        refine wpAnyM_take 8 (v := ?_) rfl (by kernel_rfl) (fun _ _ _ h => h) (Or.inl ⟨by rfl, ?_⟩) (by assumption) ?_
        rotate_left
        · (intro wx hSw; (try dsimp only at hSw); go_simp; (try with_reducible rfl))
        (try simp only [Act.put, nA, nB, nC])
        refine wpAnyM_take 9 (v := ?_) rfl (by kernel_rfl) (fun _ _ _ h => h) (Or.inl ⟨by rfl, ?_⟩) (by assumption) ?_
        rotate_left
        · (intro wx hSw; have q := hSw; go_simp; (try with_reducible rfl))
        (try simp only [Act.put, nA, nB, nC])
        refine wpAnyM_oneS 10 rfl (by kernel_rfl) (fun K hK => ?_)
        go_simp
        (refine (rsat_any c _ x2 _ HT.out.2.1 HT.out.2.2).mono ?_); (rw [NS.out]); rintro e w1 ⟨rfl, rfl⟩; have HS2 := Lib.hid (HT.out.sat (h || alB L k true m || satH x1 || satH x2)); clear HT; have HT := HS2; clear HS2
        (try dsimp only)
        (try simp only [Act.put, nA, nB, nC])
        clear hHeld
        refine hK.out _ _ ?_ (fun hHeld => ?_)
        · (have q := CL.out (7 + k) (by omega) _ _ HT.out.1; rw [← Nat.add_assoc, HX2.out] at q; exact q)
        clear hK K
        (try simp only [Act.put, nA, nB, nC])
        refine wpAnyM_one 11 rfl (by kernel_rfl) (fun K hK => ?_)
        go_simp
        refine hK.out _ _ (.inl (by kernel_rfl)) (fun _ => ?_)
        clear hK K
        (try simp only [Act.put, nA, nB, nC])
        refine wpAnyM_done (by kernel_rfl) ?_ _
        have HS2 : Hid (AlR c (h || alB L k true m || satH x1 || satH x2) w (W1.setCell c (.bool (h || alB L k true m || satH x1 || satH x2))).drew) := HT
        clear HT
        generalize (W1.setCell c (.bool (h || alB L k true m || satH x1 || satH x2))).drew = W2 at *
        have HS := HS2
        clear HS2
        have an := and30 s
        have s0 : 0 ≤ s % 1073741824 := Int.emod_nonneg _ (by decide)
        have s1 : s % 1073741824 < 1073741824 := Int.emod_lt_of_pos _ (by decide)
        go_upto_region 5 with fail
        clear an
        go_wp2_with fail
        go_roundw
        case rel => exact ⟨m + 1, by omega, by rw [E.out.1], by rw [E.out.2.1], by go_num, by rw [← E.out.2.2]; exact HS⟩
        case measure => simp [intOf]; omega
    · obtain rfl : m = n := by omega
      have d1 : decide (m < m) = false := by simp
      have d2 : decide ((m : Int) < (m : Int)) = false := by simp
      have hm1 : m ≤ 1000 := by have := HK.out.1; omega
      have E := Lib.hid (al_sat (alC L k pos) hm1)
      have bd := al_bd (alC L k pos) hm1
      have hb := hl_bd (alC L k pos) m
      have mm : (m : Int) ≤ 100 := by have := HK.out.1; omega
      obtain ⟨x, hx⟩ : ∃ x, alX (alC L k pos) m = x := ⟨_, rfl⟩
      rw [hx] at E
      unfold alX at hx
      unfold alH alL at bd hx
      obtain ⟨f, hf⟩ : ∃ x, (h || alB L k pos m) = x := ⟨_, rfl⟩
      rw [hf] at R
      have HF := Lib.hid hf
      clear hf
      obtain ⟨sm, hsm⟩ : ∃ x, sumS (alC L k pos) m = x := ⟨_, rfl⟩
      rw [hsm] at E bd
      have HSM := Lib.hid hsm
      clear hsm
      obtain ⟨a, ha⟩ : ∃ x, hiS (alC L k pos) m = x := ⟨_, rfl⟩
      obtain ⟨b, hb'⟩ : ∃ x, loS (alC L k pos) m = x := ⟨_, rfl⟩
      rw [ha, hb'] at hb bd hx
      rw [ha, hb']
      clear ha hb'
      have an := and30 b
      have s0 : 0 ≤ b % 1073741824 := Int.emod_nonneg _ (by decide)
      have s1 : b % 1073741824 < 1073741824 := Int.emod_lt_of_pos _ (by decide)
      have fin : ∀ (x : Int) (w' : World) (v : Value), v = .int .i64 (satV x) → satV x = satV sm → satH x = satH sm → AlR c (f || satH x) w w' → (Ending.returned v = .returned (.int .i64 (satV (sumS (alC L k pos) m))) ∧ Upd c (h || alB L k pos m || satH (sumS (alC L k pos) m)) w w') := fun x w' v e1 e2 e3 r => by
        rw [HSM.out, HF.out, e1, e2, ← e3]; exact ⟨rfl, r.1⟩
      have FIN := Lib.hid fin
      clear fin
      by_cases g1 : 2147483648 ≤ a + b / 1073741824 ∨ a + b / 1073741824 < -2147483648
      · rw [if_pos g1] at hx
        have gg : decide (2147483648 ≤ a + b / 1073741824) = true ∨ (decide (2147483648 ≤ a + b / 1073741824) = false ∧ decide (a + b / 1073741824 < -2147483648) = true) := by
          by_cases g3 : 2147483648 ≤ a + b / 1073741824
          · exact .inl (by simpa using g3)
          · exact .inr ⟨by simpa using g3, by simp; omega⟩
        by_cases g2 : a + b / 1073741824 < 0
        · rw [if_pos g2] at hx
          have e2 : decide (a + b / 1073741824 < 0) = true := by simpa using g2
          subst hx
          clear g1 g2 bd
          rcases gg with g3 | ⟨g3, g4⟩
          all_goals
            go_wp2_with (go_at_call 76; (refine (rsat_any c _ (-4611686018427387904) _ R.out.2.1 R.out.2.2).mono ?_); rintro e w1 ⟨rfl, rfl⟩; have RR := Lib.hid (R.out.sat (f || satH (-4611686018427387904))))
            go_ret
            exact FIN.out _ _ _ rfl E.out.1 E.out.2 RR.out
        · rw [if_neg g2] at hx
          have e2 : decide (a + b / 1073741824 < 0) = false := by simpa using g2
          subst hx
          clear g1 g2 bd
          rcases gg with g3 | ⟨g3, g4⟩
          all_goals
            go_wp2_with (go_at_call 76; (refine (rsat_any c _ 4611686018427387904 _ R.out.2.1 R.out.2.2).mono ?_); rintro e w1 ⟨rfl, rfl⟩; have RR := Lib.hid (R.out.sat (f || satH 4611686018427387904)))
            go_ret
            exact FIN.out _ _ _ rfl E.out.1 E.out.2 RR.out
      · rw [if_neg g1] at hx
        have e1 : decide (2147483648 ≤ a + b / 1073741824) = false := by simp; omega
        have e2 : decide (a + b / 1073741824 < -2147483648) = false := by simp; omega
        subst hx
        have bda := bd.1
        clear bd
        have q1 : IntKind.i64.wrap ((a + b / 1073741824) * 1073741824) = (a + b / 1073741824) * 1073741824 := IntWalk.i64_in _ (by omega)
        have q2 : IntKind.i64.wrap ((a + b / 1073741824) * 1073741824 + b % 1073741824) = (a + b / 1073741824) * 1073741824 + b % 1073741824 := IntWalk.i64_in _ (by omega)
        go_wp2_with (go_at_call 76; (refine (rsat_any c _ ((a + b / 1073741824) * 1073741824 + b % 1073741824) _ R.out.2.1 R.out.2.2).mono ?_); rintro e w1 ⟨rfl, rfl⟩; have RR := Lib.hid (R.out.sat (f || satH ((a + b / 1073741824) * 1073741824 + b % 1073741824))))
        go_ret
        exact FIN.out _ _ _ rfl E.out.1 E.out.2 RR.out
end Go.Proofs.YtgfklheepkgedaaGreat
/- Contracts of the reference's scalars (10): MulDiv. -/
namespace Go.Proofs.YtgfklheepkgedaaGreat
open Go.RowKit
set_option maxRecDepth 100000
end Go.Proofs.YtgfklheepkgedaaGreat
