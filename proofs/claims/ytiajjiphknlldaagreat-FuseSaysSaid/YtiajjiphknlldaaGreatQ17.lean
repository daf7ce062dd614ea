/- Contracts of the program's functions and plain laws, part 17: they hold for all arguments. -/
import Derived.Test.YtiajjiphknlldaaGreatQ16
import Derived.Test.YtiajjiphknlldaaGreatQ04
import Derived.Test.YtiajjiphknlldaaGreatQ05
/- Contracts of the reference's quaternions: sat, One, Unit. -/
namespace Go.Proofs.YtiajjiphknlldaaGreat
open Go.RowKit
set_option maxRecDepth 100000
theorem irq : (Tryz.prog.info? 99).map (·.size) = some 4 := by kernel_rfl
theorem arr4 (f : Nat → Int) : (#[.int .i64 (f 0), .int .i64 (f 1), .int .i64 (f 2), .int .i64 (f 3)] : Array Value) = arrv 4 f := by kernel_rfl
theorem rq_slc (w : World) (G : Nat → Int) (T : Nat) : ∀ i, i < 4 → (w.alloc (.cells #[.int .i64 (G 0), .int .i64 (G 1), .int .i64 (G 2), .int .i64 (G 3)] T)).cell? ⟨w.heap.size, 0 + i, none⟩ = some (.int .i64 (G i)) := by
  intro i hi
  obtain rfl | rfl | rfl | rfl : i = 0 ∨ i = 1 ∨ i = 2 ∨ i = 3 := by omega
  all_goals simp [go_sem]
theorem rqone_any (w : World) : Calls Tryz.prog 77 #[] w fun e w' => e = .returned (.agg (arrv 4 oneQ)) ∧ Below w.heap.size w w' := by
  go_enter Tryz.func77, Tryz.ntmps77
  go_wp2_with fail
  refine bodyPost_ret (v := .agg (arrv 4 oneQ)) (by rw [← oq4]; simp [results, Tryz.results77, go_sem, *]) rfl ⟨rfl, by (repeat (first | with_reducible exact Below.refl _ _ | with_reducible apply Below.drew | (with_reducible refine below_drewN ?_ _) | (with_reducible refine Below.alloc ?_ (by (try simp) <;> omega) _) | (with_reducible refine Below.setCell ?_ (by (try simp) <;> omega) _)))⟩
structure RqsR (c : Addr) (h : Bool) (A : Nat → Int) (w wr : World) : Prop where
  upd : Upd c h w wr
  blk : Blk wr w.heap.size 99 4 A
  res : Blk wr (w.heap.size + 1) 99 4 (fun _ => 0)
theorem RqsR.hit {c : Addr} {h h' : Bool} {A : Nat → Int} {w wr w' : World} (s : RqsR c h A w wr) (hc : c.block < w.heap.size) (e : wr.setCell c (.bool h') = w') : RqsR c h' A w w' := by
  subst e
  exact ⟨s.upd.trans (Upd.set c h' wr), s.blk.upd (Upd.set c h' wr) (by omega), s.res.upd (Upd.set c h' wr) (by omega)⟩
set_option maxHeartbeats 2000000 in
theorem rqsat_any (c : Addr) (h : Bool) (A : Nat → Int) (w : World) (hc : w.cell? c = some (.bool h)) (hf : w.frozen? c = false) :
    Calls Tryz.prog 76 #[.pointer (some c), .agg (arrv 4 A)] w fun e w' => e = .returned (.agg (arrv 4 (satA A))) ∧ Upd c (h || orB (fun i => satH (A i)) 4) w w' := by
  have hcb := World.block_lt_of_cell? w c hc
  have S0 : RqsR c h A w ((w.alloc (.cells (arrv 4 A) 99)).alloc (.cells #[.int .i64 0, .int .i64 0, .int .i64 0, .int .i64 0] 99)) :=
    ⟨Upd.then (Upd.refl hc) (by (repeat (first | with_reducible exact Below.refl _ _ | with_reducible apply Below.drew | (with_reducible refine below_drewN ?_ _) | (with_reducible refine Below.alloc ?_ (by (try simp) <;> omega) _) | (with_reducible refine Below.setCell ?_ (by (try simp) <;> omega) _)))), Blk.alloc (Blk.new w _ 4 A) _, by rw [zq4]; exact Blk.new1 w _ _ 4 _⟩
  have HC := Lib.hid hc
  have HF := Lib.hid hf
  clear hc hf
  go_enter Tryz.func76, Tryz.ntmps76
  go_upto_region 1 with fail
  generalize (w.alloc (.cells (arrv 4 A) 99)).alloc (.cells #[.int .i64 0, .int .i64 0, .int .i64 0, .int .i64 0] 99) = W0 at *
  have S1 := Lib.hid (RqsR.mk (w := w) S0.upd.drew S0.blk S0.res)
  have SA := Lib.hid (fun (g : Bool) (a : Int) (x : World) (s : RqsR c g A w x) => rsat_any c g a x (s.upd.cellc HC.out) ((s.upd.frozen hcb).trans HF.out))
  have EF := Lib.hid (show (h || orB (fun i => satH (A i)) 4) = (h || satH (A 0) || satH (A 1) || satH (A 2) || satH (A 3)) by simp [orB, Bool.or_assoc])
  clear S0
  refine wp_region_M (fun w' => Blk w' w.heap.size 99 4 A) 25 (by kernel_rfl) ?_ (fun hHeld => ?_)
  · exact S1.out.blk
  refine wpAnyM_take 0 (v := ?_) rfl (by kernel_rfl) (fun _ _ _ h => h) (Or.inl ⟨by rfl, ?_⟩) (by assumption) ?_
  rotate_left
  · (intro wx hSw; (try dsimp only at hSw); go_simp; (try with_reducible rfl))
  (try simp only [Act.put, nA, nB, nC])
  refine wpAnyM_take 1 (v := ?_) rfl (by kernel_rfl) (fun _ _ _ h => h) (Or.inl ⟨by rfl, ?_⟩) (by assumption) ?_
  rotate_left
  · (intro wx hSw; (try dsimp only at hSw); go_simp; (try with_reducible rfl))
  (try simp only [Act.put, nA, nB, nC])
  refine wpAnyM_take 2 (v := ?_) rfl (by kernel_rfl) (fun _ _ _ h => h) (Or.inl ⟨by rfl, ?_⟩) (by assumption) ?_
  rotate_left
  · (intro wx hSw; (try dsimp only at hSw); go_simp; (try with_reducible rfl))
  (try simp only [Act.put, nA, nB, nC])
  refine wpAnyM_take 3 (v := ?_) rfl (by kernel_rfl) (fun _ _ _ h => h) (Or.inl ⟨by rfl, ?_⟩) (by assumption) ?_
  rotate_left
  · (intro wx hSw; (try dsimp only at hSw); go_simp; (try with_reducible rfl))
  (try simp only [Act.put, nA, nB, nC])
  refine wpAnyM_take 4 (v := ?_) rfl (by kernel_rfl) (fun _ _ _ h => h) (Or.inl ⟨by rfl, ?_⟩) (by assumption) ?_
  rotate_left
  · (intro wx hSw; have q0 := Blk.cell (i := 0) hSw (by decide); go_simp; (try with_reducible rfl))
  (try simp only [Act.put, nA, nB, nC])
  refine wpAnyM_take 6 (v := ?_) rfl (by kernel_rfl) (fun _ _ _ h => h) (Or.inl ⟨by rfl, ?_⟩) (by assumption) ?_
  rotate_left
  · (intro wx hSw; (try dsimp only at hSw); go_simp; (try with_reducible rfl))
  (try simp only [Act.put, nA, nB, nC])
  refine wpAnyM_take 7 (v := ?_) rfl (by kernel_rfl) (fun _ _ _ h => h) (Or.inl ⟨by rfl, ?_⟩) (by assumption) ?_
  rotate_left
  · (intro wx hSw; (try dsimp only at hSw); go_simp; (try with_reducible rfl))
  (try simp only [Act.put, nA, nB, nC])
  refine wpAnyM_take 8 (v := ?_) rfl (by kernel_rfl) (fun _ _ _ h => h) (Or.inl ⟨by rfl, ?_⟩) (by assumption) ?_
  rotate_left
  · (intro wx hSw; (try dsimp only at hSw); go_simp; (try with_reducible rfl))
  (try simp only [Act.put, nA, nB, nC])
  refine wpAnyM_take 9 (v := ?_) rfl (by kernel_rfl) (fun _ _ _ h => h) (Or.inl ⟨by rfl, ?_⟩) (by assumption) ?_
  rotate_left
  · (intro wx hSw; (try dsimp only at hSw); go_simp; (try with_reducible rfl))
  (try simp only [Act.put, nA, nB, nC])
  refine wpAnyM_take 10 (v := ?_) rfl (by kernel_rfl) (fun _ _ _ h => h) (Or.inl ⟨by rfl, ?_⟩) (by assumption) ?_
  rotate_left
  · (intro wx hSw; have q0 := Blk.cell (i := 1) hSw (by decide); go_simp; (try with_reducible rfl))
  (try simp only [Act.put, nA, nB, nC])
  refine wpAnyM_take 12 (v := ?_) rfl (by kernel_rfl) (fun _ _ _ h => h) (Or.inl ⟨by rfl, ?_⟩) (by assumption) ?_
  rotate_left
  · (intro wx hSw; (try dsimp only at hSw); go_simp; (try with_reducible rfl))
  (try simp only [Act.put, nA, nB, nC])
  refine wpAnyM_take 13 (v := ?_) rfl (by kernel_rfl) (fun _ _ _ h => h) (Or.inl ⟨by rfl, ?_⟩) (by assumption) ?_
  rotate_left
  · (intro wx hSw; (try dsimp only at hSw); go_simp; (try with_reducible rfl))
  (try simp only [Act.put, nA, nB, nC])
  refine wpAnyM_take 14 (v := ?_) rfl (by kernel_rfl) (fun _ _ _ h => h) (Or.inl ⟨by rfl, ?_⟩) (by assumption) ?_
  rotate_left
  · (intro wx hSw; (try dsimp only at hSw); go_simp; (try with_reducible rfl))
  (try simp only [Act.put, nA, nB, nC])
  refine wpAnyM_take 15 (v := ?_) rfl (by kernel_rfl) (fun _ _ _ h => h) (Or.inl ⟨by rfl, ?_⟩) (by assumption) ?_
  rotate_left
  · (intro wx hSw; (try dsimp only at hSw); go_simp; (try with_reducible rfl))
  (try simp only [Act.put, nA, nB, nC])
  refine wpAnyM_take 16 (v := ?_) rfl (by kernel_rfl) (fun _ _ _ h => h) (Or.inl ⟨by rfl, ?_⟩) (by assumption) ?_
  rotate_left
  · (intro wx hSw; have q0 := Blk.cell (i := 2) hSw (by decide); go_simp; (try with_reducible rfl))
  (try simp only [Act.put, nA, nB, nC])
  refine wpAnyM_take 18 (v := ?_) rfl (by kernel_rfl) (fun _ _ _ h => h) (Or.inl ⟨by rfl, ?_⟩) (by assumption) ?_
  rotate_left
  · (intro wx hSw; (try dsimp only at hSw); go_simp; (try with_reducible rfl))
  (try simp only [Act.put, nA, nB, nC])
  refine wpAnyM_take 19 (v := ?_) rfl (by kernel_rfl) (fun _ _ _ h => h) (Or.inl ⟨by rfl, ?_⟩) (by assumption) ?_
  rotate_left
  · (intro wx hSw; (try dsimp only at hSw); go_simp; (try with_reducible rfl))
  (try simp only [Act.put, nA, nB, nC])
  refine wpAnyM_take 20 (v := ?_) rfl (by kernel_rfl) (fun _ _ _ h => h) (Or.inl ⟨by rfl, ?_⟩) (by assumption) ?_
  rotate_left
  · (intro wx hSw; (try dsimp only at hSw); go_simp; (try with_reducible rfl))
  (try simp only [Act.put, nA, nB, nC])
  refine wpAnyM_take 21 (v := ?_) rfl (by kernel_rfl) (fun _ _ _ h => h) (Or.inl ⟨by rfl, ?_⟩) (by assumption) ?_
  rotate_left
  · (intro wx hSw; (try dsimp only at hSw); go_simp; (try with_reducible rfl))
  (try simp only [Act.put, nA, nB, nC])
  refine wpAnyM_take 22 (v := ?_) rfl (by kernel_rfl) (fun _ _ _ h => h) (Or.inl ⟨by rfl, ?_⟩) (by assumption) ?_
  rotate_left
  · (intro wx hSw; have q0 := Blk.cell (i := 3) hSw (by decide); go_simp; (try with_reducible rfl))
  (try simp only [Act.put, nA, nB, nC])
  refine wpAnyM_oneS 5 rfl (by kernel_rfl) (fun K hK => ?_)
  go_simp
  (refine (SA.out _ (A 0) _ S1.out).mono ?_); rintro e w1 ⟨rfl, h1⟩; have S2 := Lib.hid (S1.out.hit hcb h1); clear h1
  (try dsimp only)
  (try simp only [Act.put, nA, nB, nC])
  clear hHeld
  refine hK.out _ _ ?_ (fun hHeld => ?_)
  · exact S2.out.blk
  clear hK K
  (try simp only [Act.put, nA, nB, nC])
  refine wpAnyM_oneS 11 rfl (by kernel_rfl) (fun K hK => ?_)
  go_simp
  (refine (SA.out _ (A 1) _ S2.out).mono ?_); rintro e w2 ⟨rfl, h2⟩; have S3 := Lib.hid (S2.out.hit hcb h2); clear h2
  (try dsimp only)
  (try simp only [Act.put, nA, nB, nC])
  clear hHeld
  refine hK.out _ _ ?_ (fun hHeld => ?_)
  · exact S3.out.blk
  clear hK K
  (try simp only [Act.put, nA, nB, nC])
  refine wpAnyM_oneS 17 rfl (by kernel_rfl) (fun K hK => ?_)
  go_simp
  (refine (SA.out _ (A 2) _ S3.out).mono ?_); rintro e w3 ⟨rfl, h3⟩; have S4 := Lib.hid (S3.out.hit hcb h3); clear h3
  (try dsimp only)
  (try simp only [Act.put, nA, nB, nC])
  clear hHeld
  refine hK.out _ _ ?_ (fun hHeld => ?_)
  · exact S4.out.blk
  clear hK K
  (try simp only [Act.put, nA, nB, nC])
  refine wpAnyM_oneS 23 rfl (by kernel_rfl) (fun K hK => ?_)
  go_simp
  (refine (SA.out _ (A 3) _ S4.out).mono ?_); rintro e w4 ⟨rfl, h4⟩; have S5 := Lib.hid (S4.out.hit hcb h4); have B5 := S5.out.res; clear h4
  (try dsimp only)
  (try simp only [Act.put, nA, nB, nC])
  clear hHeld
  refine hK.out _ _ ?_ (fun hHeld => ?_)
  · exact S5.out.blk
  clear hK K
  (try simp only [Act.put, nA, nB, nC])
  refine wpAnyM_take 24 (v := ?_) rfl (by kernel_rfl) (fun _ _ _ h => h) (Or.inl ⟨by rfl, ?_⟩) (by assumption) ?_
  rotate_left
  · (intro wx hSw; go_simp; rw [show (#[.int .i64 (satV (A 0)), .int .i64 (satV (A 1)), .int .i64 (satV (A 2)), .int .i64 (satV (A 3))] : Array Value) = arrv 4 (satA A) from arr4 (satA A)]; (try with_reducible rfl))
  (try simp only [Act.put, nA, nB, nC])
  refine wpAnyM_one 25 rfl (by kernel_rfl) (fun K hK => ?_)
  go_simp; rw [if_pos (arrv_size _ _), run_storeCells_row _ B5]; go_simp
  refine hK.out _ _ (.inl (by kernel_rfl)) (fun _ => ?_)
  clear hK K
  (try simp only [Act.put, nA, nB, nC])
  refine wpAnyM_done (by kernel_rfl) ?_ _
  (try clear hHeld)
  go_wp2_with fail
  refine bodyPost_ret (results_cell_row Tryz.results76 _ _ (w.heap.size + 1) 99 (arrv 4 (satA A)) (0, 0) _ rfl (setRow_heap _ _ _ _ _ _ B5) Tryz.underlying99 rfl (irq.trans (by rw [arrv_size]))) rfl ⟨rfl, ?_⟩
  rw [EF.out]
  exact S5.out.upd.then' (below_row (Below.refl _ _) (by omega) _)
structure RquR (c : Addr) (h : Bool) (g : Nat → Int) (w wr : World) : Prop where
  upd : Upd c h w wr
  blk : Blk wr w.heap.size 99 4 g
  res : Blk wr (w.heap.size + 1) 99 4 (fun _ => 0)
theorem RquR.upd' {c : Addr} {h h' : Bool} {g : Nat → Int} {w wr w' : World} (s : RquR c h g w wr) (hc : c.block < w.heap.size) (u : Upd c h' wr w') : RquR c h' g w w' :=
  ⟨s.upd.trans u, s.blk.upd u (by omega), s.res.upd u (by omega)⟩
set_option maxHeartbeats 2000000 in
theorem rqunit_any (c : Addr) (h : Bool) (A : Nat → Int) (w : World) (hc : w.cell? c = some (.bool h)) (hf : w.frozen? c = false) :
    Calls Tryz.prog 47 #[.pointer (some c), .agg (arrv 4 A)] w fun e w' => e = .returned (.agg (arrv 4 (uniV A))) ∧ Upd c (h || uniH A) w w' := by
  have hcb := World.block_lt_of_cell? w c hc
  have S0 : RquR c h A w ((w.alloc (.cells (arrv 4 A) 99)).alloc (.cells #[.int .i64 0, .int .i64 0, .int .i64 0, .int .i64 0] 99)) :=
    ⟨Upd.then (Upd.refl hc) (by (repeat (first | with_reducible exact Below.refl _ _ | with_reducible apply Below.drew | (with_reducible refine below_drewN ?_ _) | (with_reducible refine Below.alloc ?_ (by (try simp) <;> omega) _) | (with_reducible refine Below.setCell ?_ (by (try simp) <;> omega) _)))), Blk.alloc (Blk.new w _ 4 A) _, by rw [zq4]; exact Blk.new1 w _ _ 4 _⟩
  have HC := Lib.hid hc
  have HF := Lib.hid hf
  clear hc hf
  go_enter Tryz.func47, Tryz.ntmps47
  go_upto_region 1 with fail
  generalize (w.alloc (.cells (arrv 4 A) 99)).alloc (.cells #[.int .i64 0, .int .i64 0, .int .i64 0, .int .i64 0] 99) = W0 at *
  have P0 := S0.blk
  have H0 := Lib.hid S0
  have SC := Lib.hid (rqsat_any c h A W0 (S0.upd.cellc HC.out) ((S0.upd.frozen hcb).trans HF.out))
  clear S0
  go_upto_region 2 with (first | (refine wpList_load_row rfl 99 _ rfl (w.heap.size) rfl 99 _ (0, 0) _ (P0) Tryz.underlying99 rfl (irq.trans (by rw [arrv_size])) ?_) | (go_at_call 76; (refine SC.out.mono ?_); rintro e w1 ⟨rfl, hu1⟩; have P1 := P0.upd hu1 (by omega)) | (refine wpList_store_row rfl 99 _ _ rfl (w.heap.size) _ rfl rfl 99 _ (P1) (irq.trans (by rw [arrv_size])) (by rw [arrv_size, arrv_size]) (oneCell_arrv _ _) ?_))
  have S1 := H0.out.upd' hcb hu1
  have S2 : RquR c (h || orB (fun i => satH (A i)) 4) (satA A) w (w1.setRow w.heap.size (arrv 4 (satA A))) :=
    ⟨S1.upd.then' (below_row (Below.refl _ _) (Nat.le_refl _) _), S1.blk.setRow _, S1.res.setRow_other _ (by omega)⟩
  clear S1 SC P0 P1 H0 hu1
  generalize w1.setRow w.heap.size (arrv 4 (satA A)) = W1 at *
  have P2 := S2.blk
  have H2 := Lib.hid S2
  have EZ := zer4_eq (satA A)
  by_cases hz : zer4 (satA A) = true
  · rw [hz] at EZ
    have e1 : uniV A = oneQ := by unfold uniV; rw [if_pos hz]
    have e2 : (h || uniH A) = (h || orB (fun i => satH (A i)) 4) := by unfold uniH; rw [if_pos hz, Bool.or_false]
    have EZ := Lib.hid EZ
    have E1 := Lib.hid (And.intro e1 e2)
    clear hz e1 e2 S2
    refine wp_region_lit ?_
    refine wpList_val (v := ?_) rfl ?_ ?_
    rotate_left
    · refine Eq.trans (run_load_row 99 (.tmp 3) (by rfl) (w.heap.size) (by rfl) _ _ _ _ (P2) Tryz.underlying99 rfl (irq.trans (by rw [arrv_size]))) ?_; with_reducible rfl
    (try simp only [Act.put, nA, nB, nC])
    refine wpList_val (v := ?_) rfl ?_ ?_
    rotate_left
    · (go_simp; (try (first | with_reducible rfl | (constructor <;> with_reducible rfl))))
    (try simp only [Act.put, nA, nB, nC])
    refine wpList_val (v := ?_) rfl ?_ ?_
    rotate_left
    · refine Eq.trans (run_op_eqlVec Tryz.underlying99 (by kernel_rfl) (.tmp 11) (.tmp 12) (by rfl) (by rfl) (g := fun _ => 0) (by rw [← zq4]; rfl) EZ.out) ?_; with_reducible rfl
    (try simp only [Act.put, nA, nB, nC])
    refine wpList_nil ?_
    have B1 := H2.out.res
    go_wp2_with fail
    refine (rqone_any _).mono ?_; rintro e w3 ⟨rfl, hb3⟩
    have R3 := B1.below hb3
    go_wp2_with (refine wpList_store_row rfl 99 _ _ rfl (w.heap.size + 1) _ rfl rfl 99 _ (R3) (irq.trans (by rw [arrv_size])) (by rw [arrv_size, arrv_size]) (oneCell_arrv _ _) ?_)
    refine bodyPost_ret (results_cell_row Tryz.results47 _ _ (w.heap.size + 1) 99 (arrv 4 oneQ) (0, 0) _ rfl (setRow_heap _ _ _ _ _ _ R3) Tryz.underlying99 rfl (irq.trans (by rw [arrv_size]))) rfl ⟨by rw [E1.out.1], ?_⟩
    rw [E1.out.2]
    exact (H2.out.upd.then hb3).then' (below_row (Below.refl _ _) (by omega) _)
  · have hz2 : zer4 (satA A) = false := by simpa using hz
    rw [hz2] at EZ
    have e1 : uniV A = uniT (uniT (satA A)) := by unfold uniV; rw [if_neg hz]
    have e2 : (h || uniH A) = (h || orB (fun i => satH (A i)) 4 || turH (satA A) 2) := by unfold uniH; rw [if_neg hz, ← Bool.or_assoc]; simp [turH, turN]
    have EZ := Lib.hid EZ
    have E1 := Lib.hid (And.intro e1 e2)
    clear hz e1 e2 S2 hz2
    refine wp_region_lit ?_
    refine wpList_val (v := ?_) rfl ?_ ?_
    rotate_left
    · refine Eq.trans (run_load_row 99 (.tmp 3) (by rfl) (w.heap.size) (by rfl) _ _ _ _ (P2) Tryz.underlying99 rfl (irq.trans (by rw [arrv_size]))) ?_; with_reducible rfl
    (try simp only [Act.put, nA, nB, nC])
    refine wpList_val (v := ?_) rfl ?_ ?_
    rotate_left
    · (go_simp; (try (first | with_reducible rfl | (constructor <;> with_reducible rfl))))
    (try simp only [Act.put, nA, nB, nC])
    refine wpList_val (v := ?_) rfl ?_ ?_
    rotate_left
    · refine Eq.trans (run_op_eqlVec Tryz.underlying99 (by kernel_rfl) (.tmp 11) (.tmp 12) (by rfl) (by rfl) (g := fun _ => 0) (by rw [← zq4]; rfl) EZ.out) ?_; with_reducible rfl
    (try simp only [Act.put, nA, nB, nC])
    refine wpList_nil ?_
    obtain ⟨H1, hH1⟩ : ∃ H1, (h || orB (fun i => satH (A i)) 4) = H1 := ⟨_, rfl⟩
    obtain ⟨B, hB⟩ : ∃ B, satA A = B := ⟨_, rfl⟩
    rw [hH1, hB] at H2
    have E2 : Hid (uniV A = turN B 2 ∧ (h || uniH A) = (H1 || turH B 2)) := by rw [← hB, ← hH1]; exact E1
    clear hH1 hB EZ P2
    go_wp2_with fail
    go_loopw [5] (fun i wr => ∃ n : Nat, n ≤ 2 ∧ i = .int .i64 n ∧ Hid (RquR c (H1 || turH B n) (turN B n) w wr)) (fun i _ => 2 - (intOf i).toNat)
    case atStart => exact ⟨0, by omega, rfl, by rw [show (H1 || turH B 0) = H1 from by simp [turH]]; exact H2.out⟩
    case round =>
      obtain ⟨n, hn, rfl, R⟩ := hrel
      by_cases hlt : n < 2
      · have d1 : decide ((n : Int) < 2) = true := by simp; omega
        obtain ⟨G, hG⟩ : ∃ G, turN B n = G := ⟨_, rfl⟩
        obtain ⟨H3, hH3⟩ : ∃ H3, (H1 || turH B n) = H3 := ⟨_, rfl⟩
        have hstep : turN B (n + 1) = uniT G ∧ (H1 || turH B (n + 1)) = (H3 || uniTH G) := by rw [← hG, ← hH3]; exact ⟨rfl, by simp [turH, Bool.or_assoc]⟩
        have HST := Lib.hid hstep
        rw [hG, hH3] at R
        clear hG hH3 hstep H2
        have rc := R.out.upd.cellc HC.out
        have rf := (R.out.upd.frozen hcb).trans HF.out
        have HY := Lib.hid (fun (x : World) k1 k2 k3 => rhypot_any c H3 G wr.heap.size 0 4 4 x k1 k2 (by decide) k3)
        have B0 := R.out.blk
        have RD := Lib.hid (RquR.mk (R.out.upd.drew.alloc (.cells #[.int .i64 (G 0), .int .i64 (G 1), .int .i64 (G 2), .int .i64 (G 3)] 2)) (Blk.alloc (show Blk wr.drew w.heap.size 99 4 G from R.out.blk) (.cells #[.int .i64 (G 0), .int .i64 (G 1), .int .i64 (G 2), .int .i64 (G 3)] 2)) (Blk.alloc (show Blk wr.drew (w.heap.size + 1) 99 4 (fun _ => 0) from R.out.res) (.cells #[.int .i64 (G 0), .int .i64 (G 1), .int .i64 (G 2), .int .i64 (G 3)] 2)))
        go_upto_region 7 with fail
        refine wp_region_M (fun w' => Blk w' w.heap.size 99 4 G) 13 (by kernel_rfl) ?_ (fun hHeld => ?_)
        · exact B0
        refine wpAnyM_take 0 (v := ?_) rfl (by kernel_rfl) (fun _ _ _ h => h) (Or.inl ⟨by rfl, ?_⟩) (by assumption) ?_
        rotate_left
        · (intro wx hSw; (try dsimp only at hSw); go_simp; (try with_reducible rfl))
        (try simp only [Act.put, nA, nB, nC])
        refine wpAnyM_take 1 (v := ?_) rfl (by kernel_rfl) (fun _ _ _ h => h) (Or.inl ⟨by rfl, ?_⟩) (by assumption) ?_
        rotate_left
        · (intro wx hSw; (try dsimp only at hSw); go_simp; (try with_reducible rfl))
        (try simp only [Act.put, nA, nB, nC])
        refine wpAnyM_take 2 (v := ?_) rfl (by kernel_rfl) (fun _ _ _ h => h) (Or.inl ⟨by rfl, ?_⟩) (by assumption) ?_
        rotate_left
        · (intro wx hSw; (try dsimp only at hSw); go_simp; (try with_reducible rfl))
        (try simp only [Act.put, nA, nB, nC])
        refine wpAnyM_take 3 (v := ?_) rfl (by kernel_rfl) (fun _ _ _ h => h) (Or.inl ⟨by rfl, ?_⟩) (by assumption) ?_
        rotate_left
        · (intro wx hSw; (try dsimp only at hSw); go_simp; (try with_reducible rfl))
        (try simp only [Act.put, nA, nB, nC])
        refine wpAnyM_take 4 (v := ?_) rfl (by kernel_rfl) (fun _ _ _ h => h) (Or.inl ⟨by rfl, ?_⟩) (by assumption) ?_
        rotate_left
        · (intro wx hSw; have q0 := Blk.cell (i := 0) hSw (by decide); go_simp; (try with_reducible rfl))
        (try simp only [Act.put, nA, nB, nC])
        refine wpAnyM_take 5 (v := ?_) rfl (by kernel_rfl) (fun _ _ _ h => h) (Or.inl ⟨by rfl, ?_⟩) (by assumption) ?_
        rotate_left
        · (intro wx hSw; (try dsimp only at hSw); go_simp; (try with_reducible rfl))
        (try simp only [Act.put, nA, nB, nC])
        refine wpAnyM_take 6 (v := ?_) rfl (by kernel_rfl) (fun _ _ _ h => h) (Or.inl ⟨by rfl, ?_⟩) (by assumption) ?_
        rotate_left
        · (intro wx hSw; have q0 := Blk.cell (i := 1) hSw (by decide); go_simp; (try with_reducible rfl))
        (try simp only [Act.put, nA, nB, nC])
        refine wpAnyM_take 7 (v := ?_) rfl (by kernel_rfl) (fun _ _ _ h => h) (Or.inl ⟨by rfl, ?_⟩) (by assumption) ?_
        rotate_left
        · (intro wx hSw; (try dsimp only at hSw); go_simp; (try with_reducible rfl))
        (try simp only [Act.put, nA, nB, nC])
        refine wpAnyM_take 8 (v := ?_) rfl (by kernel_rfl) (fun _ _ _ h => h) (Or.inl ⟨by rfl, ?_⟩) (by assumption) ?_
        rotate_left
        · (intro wx hSw; have q0 := Blk.cell (i := 2) hSw (by decide); go_simp; (try with_reducible rfl))
        (try simp only [Act.put, nA, nB, nC])
        refine wpAnyM_take 9 (v := ?_) rfl (by kernel_rfl) (fun _ _ _ h => h) (Or.inl ⟨by rfl, ?_⟩) (by assumption) ?_
        rotate_left
        · (intro wx hSw; (try dsimp only at hSw); go_simp; (try with_reducible rfl))
        (try simp only [Act.put, nA, nB, nC])
        refine wpAnyM_take 10 (v := ?_) rfl (by kernel_rfl) (fun _ _ _ h => h) (Or.inl ⟨by rfl, ?_⟩) (by assumption) ?_
        rotate_left
        · (intro wx hSw; have q0 := Blk.cell (i := 3) hSw (by decide); go_simp; (try with_reducible rfl))
        (try simp only [Act.put, nA, nB, nC])
        refine wpAnyM_oneS 11 rfl (by kernel_rfl) (fun K hK => ?_)
        go_simp
        clear hHeld
        refine hK.out _ _ ?_ (fun hHeld => ?_)
        · exact RD.out.blk
        clear hK K
        (try simp only [Act.put, nA, nB, nC])
        refine wpAnyM_oneS 12 rfl (by kernel_rfl) (fun K hK => ?_)
        go_simp
        (refine (HY.out _ (RD.out.upd.cellc HC.out) ((RD.out.upd.frozen hcb).trans HF.out) (rq_slc wr.drew G 2)).mono ?_); rintro e w2 ⟨rfl, hu2⟩; have R2 := Lib.hid (RD.out.upd' hcb hu2)
        (try dsimp only)
        (try simp only [Act.put, nA, nB, nC])
        clear hHeld
        refine hK.out _ _ ?_ (fun hHeld => ?_)
        · exact R2.out.blk
        clear hK K
        (try simp only [Act.put, nA, nB, nC])
        refine wpAnyM_one 13 rfl (by kernel_rfl) (fun K hK => ?_)
        go_simp
        refine hK.out _ _ (.inl (by kernel_rfl)) (fun _ => ?_)
        clear hK K
        (try simp only [Act.put, nA, nB, nC])
        refine wpAnyM_done (by kernel_rfl) ?_ _
        (try clear hHeld)
        obtain ⟨M, hM⟩ : ∃ M, hypV G 4 = M := ⟨_, rfl⟩
        obtain ⟨H4, hH4⟩ : ∃ H4, (H3 || hypH G 4) = H4 := ⟨_, rfl⟩
        rw [hM]
        rw [hH4] at R2
        have HM := Lib.hid (And.intro hM hH4)
        clear hM hH4 hu2 HY R rc rf B0 RD
        go_wp2_with fail
        go_loopw [7] (fun i wr => ∃ k : Nat, k ≤ 4 ∧ i = .int .i64 k ∧ Hid (RquR c (H4 || orB (fun i => divH (G i) M 30) k) (turK G M k) w wr)) (fun i _ => 4 - (intOf i).toNat)
        case atStart =>
          refine ⟨0, by omega, rfl, ?_⟩
          rw [show (H4 || orB (fun i => divH (G i) M 30) 0) = H4 from by simp [orB]]
          exact ⟨R2.out.upd, R2.out.blk.congr fun i hi => by simp [turK], R2.out.res⟩
        case round =>
          obtain ⟨k, hk, rfl, R⟩ := hrel
          by_cases hlt4 : k < 4
          · have rc := R.out.upd.cellc HC.out
            have rf := (R.out.upd.frozen hcb).trans HF.out
            have b0 := R.out.blk.cell (i := k) (by omega)
            have hv : turK G M k k = G k := by simp [turK]
            rw [hv] at b0
            have DV := Lib.hid (rd_any c _ (G k) M wr.drew (by exact rc) (by exact rf))
            have k0 : (0 : Int) ≤ (k : Int) := Int.natCast_nonneg _
            have k1 : (k : Int) < 4 := by omega
            have d4 : decide ((k : Int) < 4) = true := by simp; omega
            have RD := Lib.hid (RquR.mk (w := w) R.out.upd.drew R.out.blk R.out.res)
            clear hv rc rf
            go_upto_region 11 with fail
            refine wp_region_M (fun w' => w'.cell? ⟨w.heap.size, k, none⟩ = some (.int .i64 (G k))) 10 (by kernel_rfl) ?_ (fun hHeld => ?_)
            · exact b0
            refine wpAnyM_take 0 (v := ?_) rfl (by kernel_rfl) (fun _ _ _ h => h) (Or.inl ⟨by rfl, ?_⟩) (by assumption) ?_
            rotate_left
            · (intro wx hSw; (try dsimp only at hSw); go_simp; (try with_reducible rfl))
            (try simp only [Act.put, nA, nB, nC])
            refine wpAnyM_take 1 (v := ?_) rfl (by kernel_rfl) (fun _ _ _ h => h) (Or.inl ⟨by rfl, ?_⟩) (by assumption) ?_
            rotate_left
            · (intro wx hSw; (try dsimp only at hSw); go_simp; (try with_reducible rfl))
            (try simp only [Act.put, nA, nB, nC])
            refine wpAnyM_take 2 (v := ?_) rfl (by kernel_rfl) (fun _ _ _ h => h) (Or.inl ⟨by rfl, ?_⟩) (by assumption) ?_
            rotate_left
            · (intro wx hSw; (try dsimp only at hSw); go_simp; (try with_reducible rfl))
            (try simp only [Act.put, nA, nB, nC])
            refine wpAnyM_take 3 (v := ?_) rfl (by kernel_rfl) (fun _ _ _ h => h) (Or.inl ⟨by rfl, ?_⟩) (by assumption) ?_
            rotate_left
            · (intro wx hSw; (try dsimp only at hSw); go_simp; (try with_reducible rfl))
            (try simp only [Act.put, nA, nB, nC])
            refine wpAnyM_take 4 (v := ?_) rfl (by kernel_rfl) (fun _ _ _ h => h) (Or.inl ⟨by rfl, ?_⟩) (by assumption) ?_
            rotate_left
            · (intro wx hSw; (try dsimp only at hSw); go_simp; (try with_reducible rfl))
            (try simp only [Act.put, nA, nB, nC])
            refine wpAnyM_take 5 (v := ?_) rfl (by kernel_rfl) (fun _ _ _ h => h) (Or.inl ⟨by rfl, ?_⟩) (by assumption) ?_
            rotate_left
            · (intro wx hSw; (try dsimp only at hSw); go_simp; (first | rw [if_pos (by omega)] | rw [if_pos ⟨by omega, by omega⟩] | skip); (try with_reducible rfl))
            (try simp only [Act.put, nA, nB, nC])
            refine wpAnyM_take 6 (v := ?_) rfl (by kernel_rfl) (fun _ _ _ h => h) (Or.inl ⟨by rfl, ?_⟩) (by assumption) ?_
            rotate_left
            · (intro wx hSw; (try dsimp only at hSw); go_simp; (try with_reducible rfl))
            (try simp only [Act.put, nA, nB, nC])
            refine wpAnyM_take 7 (v := ?_) rfl (by kernel_rfl) (fun _ _ _ h => h) (Or.inl ⟨by rfl, ?_⟩) (by assumption) ?_
            rotate_left
            · (intro wx hSw; (try dsimp only at hSw); go_simp; (try with_reducible rfl))
            (try simp only [Act.put, nA, nB, nC])
            refine wpAnyM_oneS 8 rfl (by kernel_rfl) (fun K hK => ?_)
            go_simp
            (refine DV.out.mono ?_); rintro e w3 ⟨rfl, hu3⟩; have R3 := Lib.hid (RD.out.upd' hcb hu3); have b1 : w3.cell? ⟨w.heap.size, k, none⟩ = some (.int .i64 (G k)) := (by have h := R3.out.blk.cell (i := k) (by omega); simpa [turK] using h); have b2 := R3.out.blk.free k; clear hu3
            (try dsimp only)
            (try simp only [Act.put, nA, nB, nC])
            clear hHeld
            refine hK.out _ _ ?_ (fun hHeld => ?_)
            · exact b1
            clear hK K
            (try simp only [Act.put, nA, nB, nC])
            refine wpAnyM_take 9 (v := ?_) rfl (by kernel_rfl) (fun _ _ _ h => h) (Or.inl ⟨by rfl, ?_⟩) (by assumption) ?_
            rotate_left
            · (intro wx hSw; (try dsimp only at hSw); go_simp; (first | rw [if_pos (by omega)] | rw [if_pos ⟨by omega, by omega⟩] | skip); (try with_reducible rfl))
            (try simp only [Act.put, nA, nB, nC])
            refine wpAnyM_one 10 rfl (by kernel_rfl) (fun K hK => ?_)
            go_simp
            refine hK.out _ _ (.inl (by kernel_rfl)) (fun _ => ?_)
            clear hK K
            (try simp only [Act.put, nA, nB, nC])
            refine wpAnyM_done (by kernel_rfl) ?_ _
            (try clear hHeld)
            clear DV R RD
            go_wp2_with fail
            go_roundw
            case rel =>
              refine ⟨k + 1, by omega, by go_num, ⟨?_, ?_, ?_⟩⟩
              · rw [show (H4 || orB (fun i => divH (G i) M 30) (k + 1)) = (H4 || orB (fun i => divH (G i) M 30) k || divH (G k) M 30) from by simp [orB, Bool.or_assoc]]
                exact R3.out.upd.setCell (Nat.le_refl _) _
              · refine (R3.out.blk.set _ _).congr fun i hi => ?_
                simp only [Go.Proofs.YtiajjiphknlldaaGreat.upd, turK]
                by_cases h1 : i = k
                · subst h1; simp
                · rw [if_neg h1]; split <;> split <;> first | rfl | omega
              · exact R3.out.res.other (by simp) _
            case measure => simp [intOf]; omega
          · have hk4 : k = 4 := by omega
            subst hk4
            rw [show ((4 : Nat) : Int) = 4 from rfl]
            clear hlt4 hk
            go_wp2_with fail
            go_roundw
            case rel =>
              refine ⟨n + 1, by omega, by go_num, ?_⟩
              rw [HST.out.1, HST.out.2]
              have e3 : (H3 || uniTH G) = (H4 || orB (fun i => divH (G i) M 30) 4) := by rw [← HM.out.2, ← HM.out.1]; simp [uniTH, Bool.or_assoc]
              rw [e3]
              exact ⟨R.out.upd, R.out.blk.congr fun i hi => by simp only [turK, uniT, HM.out.1]; rw [if_pos hi], R.out.res⟩
            case measure => simp [intOf]; omega
      · have hn2 : n = 2 := by omega
        subst hn2
        rw [show ((2 : Nat) : Int) = 2 from rfl]
        have B0 := R.out.blk
        have B1 := R.out.res
        have U := Lib.hid R.out.upd
        clear R hlt hn H2
        go_wp2_with (first | (refine wpList_load_row rfl 99 _ rfl (w.heap.size) rfl 99 _ (0, 0) _ (B0) Tryz.underlying99 rfl (irq.trans (by rw [arrv_size])) ?_) | (refine wpList_store_row rfl 99 _ _ rfl (w.heap.size + 1) _ rfl rfl 99 _ (B1) (irq.trans (by rw [arrv_size])) (by rw [arrv_size, arrv_size]) (oneCell_arrv _ _) ?_))
        refine bodyPost_ret (results_cell_row Tryz.results47 _ _ (w.heap.size + 1) 99 (arrv 4 (turN B 2)) (0, 0) _ rfl (setRow_heap _ _ _ _ _ _ B1) Tryz.underlying99 rfl (irq.trans (by rw [arrv_size]))) rfl ⟨by rw [E2.out.1], ?_⟩
        rw [E2.out.2]
        exact U.out.then' (below_row (Below.refl _ _) (by omega) _)
end Go.Proofs.YtiajjiphknlldaaGreat
/- Contract of the reference's Near. -/
namespace Go.Proofs.YtiajjiphknlldaaGreat
open Go.RowKit
set_option maxRecDepth 100000
def sqN (A : Nat → Int) (i : Nat) : Nat := (A i).natAbs * (A i).natAbs
theorem sqN_int (A : Nat → Int) (i : Nat) : A i * A i = ((sqN A i : Nat) : Int) := by unfold sqN; exact Int.natAbs_mul_self.symm
def nrS (A : Nat → Int) : Nat → Nat | 0 => 0 | k + 1 => nrS A k + sqN A k / 4
def nrT (A : Nat → Int) : Nat → Nat | 0 => 0 | k + 1 => nrT A k + sqN A k % 4
theorem nr_sum (A : Nat → Int) : sum4 A = ((4 * nrS A 4 + nrT A 4 : Nat) : Int) := by
  unfold sum4
  rw [sqN_int, sqN_int, sqN_int, sqN_int]
  simp only [nrS, nrT]
  omega
theorem nrT_bd (A : Nat → Int) : ∀ k, nrT A k ≤ 3 * k
  | 0 => by simp [nrT]
  | k + 1 => by have := nrT_bd A k; simp only [nrT]; omega
theorem nrS_mono (A : Nat → Int) {k m : Nat} (h : k ≤ m) : nrS A k ≤ nrS A m := by
  induction m with
  | zero => have : k = 0 := by omega
            subst this; exact Nat.le_refl _
  | succ m ih =>
    by_cases e : k = m + 1
    · subst e; exact Nat.le_refl _
    · have := ih (by omega); simp only [nrS]; omega
theorem near_far {A : Nat → Int} {k : Nat} (hk : k < 4) (h : A k < -2147483648 ∨ 2147483648 < A k) : unitB A = false := by
  refine unitB_no (n := k + 1) ?_ (by omega)
  simp only [inQs]
  rw [show inQ (A k) = false from by unfold inQ; simp; omega, Bool.and_false]
theorem near_much {A : Nat → Int} {k : Nat} (hk : k ≤ 4) (h : 576460752303423488 < nrS A k) : unitB A = false := by
  have h1 := nrS_mono A hk
  have h2 := nr_sum A
  unfold unitB
  rw [show decide (sum4 A - 1152921504606846976 ≤ 4294967296) = false from by simp; omega]
  simp
theorem sq_small {a : Int} (h : a * a ≤ 1152921508901814272) : inQ a = true := by
  unfold inQ
  have h1 : a ≤ 1073741840 := by
    rcases Int.lt_or_le 1073741840 a with h2 | h2
    · have : 1073741841 * 1073741841 ≤ a * a := Int.mul_le_mul (by omega) (by omega) (by omega) (by omega)
      omega
    · exact h2
  have h3 : -1073741840 ≤ a := by
    rcases Int.lt_or_le a (-1073741840) with h2 | h2
    · have : 1073741841 * 1073741841 ≤ (-a) * (-a) := Int.mul_le_mul (by omega) (by omega) (by omega) (by omega)
      rw [Int.neg_mul_neg] at this
      omega
    · exact h2
  simp; omega
theorem near_end (A : Nat → Int) : unitB A = (decide (-4294967296 ≤ 4 * ((nrS A 4 : Int) - 288230376151711744) + (nrT A 4 : Int)) && decide (4 * ((nrS A 4 : Int) - 288230376151711744) + (nrT A 4 : Int) ≤ 4294967296)) := by
  have h2 := nr_sum A
  have e : 4 * ((nrS A 4 : Int) - 288230376151711744) + (nrT A 4 : Int) = sum4 A - 1152921504606846976 := by omega
  rw [e]
  unfold unitB
  by_cases h : sum4 A - 1152921504606846976 ≤ 4294967296
  · have hs : ∀ i, i < 4 → A i * A i ≤ sum4 A := by
      intro i hi
      have z0 := sqN_int A 0
      have z1 := sqN_int A 1
      have z2 := sqN_int A 2
      have z3 := sqN_int A 3
      unfold sum4
      obtain rfl | rfl | rfl | rfl : i = 0 ∨ i = 1 ∨ i = 2 ∨ i = 3 := by omega
      all_goals omega
    have hq : inQs A 4 = true := by
      simp only [inQs]
      rw [sq_small (by have := hs 0 (by omega); omega), sq_small (by have := hs 1 (by omega); omega), sq_small (by have := hs 2 (by omega); omega), sq_small (by have := hs 3 (by omega); omega)]
      rfl
    rw [hq, Bool.true_and]
  · rw [show decide (sum4 A - 1152921504606846976 ≤ 4294967296) = false from by simpa using h]
    simp
set_option maxHeartbeats 4000000 in
theorem rnear_any (A : Nat → Int) (w : World) : Calls Tryz.prog 45 #[.agg (arrv 4 A)] w fun e w' => e = .returned (.bool (unitB A)) ∧ Below w.heap.size w w' := by
  have P0 := Lib.hid (Blk.new w 99 4 A)
  have B0 := Lib.hid (show Below w.heap.size w (w.alloc (.cells (arrv 4 A) 99)) by (repeat (first | with_reducible exact Below.refl _ _ | with_reducible apply Below.drew | (with_reducible refine below_drewN ?_ _) | (with_reducible refine Below.alloc ?_ (by (try simp) <;> omega) _) | (with_reducible refine Below.setCell ?_ (by (try simp) <;> omega) _))))
  go_enter Tryz.func45, Tryz.ntmps45
  go_upto_region 1 with fail
  generalize w.alloc (.cells (arrv 4 A) 99) = W0 at *
  go_wp2_with fail
  go_loopw [3, 4] (fun v3 v4 wr => ∃ k : Nat, k ≤ 4 ∧ v3 = .int .i64 (nrS A k : Nat) ∧ v4 = .int .i64 k ∧ Hid (Below w.heap.size w wr ∧ Blk wr w.heap.size 99 4 A ∧ (∀ i, i < k → -2147483648 ≤ A i ∧ A i ≤ 2147483648) ∧ nrS A k ≤ 576460752303423488)) (fun _ v4 _ => 4 - (intOf v4).toNat)
  case atStart => exact ⟨0, by omega, rfl, rfl, Lib.hid ⟨B0.out, P0.out, fun i hi => by omega, by simp [nrS]⟩⟩
  case round =>
    obtain ⟨k, hk, rfl, rfl, R⟩ := hrel
    by_cases hlt : k < 4
    · have d1 : decide ((k : Int) < 4) = true := by simp; omega
      have b0 := R.out.2.1.cell (i := k) hlt
      have k0 : (0 : Int) ≤ (k : Int) := Int.natCast_nonneg _
      have k1 : (k : Int) < 4 := by omega
      have hsq := sqN_int A k
      have hS : nrS A (k + 1) = nrS A k + sqN A k / 4 := rfl
      have NF := Lib.hid (fun (h : A k < -2147483648 ∨ 2147483648 < A k) => near_far hlt h)
      have NM := Lib.hid (fun (h : 576460752303423488 < nrS A (k + 1)) => near_much (A := A) (k := k + 1) (by omega) h)
      obtain ⟨a, ha⟩ : ∃ a, A k = a := ⟨_, rfl⟩
      obtain ⟨P, hP⟩ : ∃ P, sqN A k = P := ⟨_, rfl⟩
      rw [ha] at b0 hsq
      simp only [ha] at NF
      rw [hP] at hsq hS
      have EA := Lib.hid ha
      have HR := Lib.hid R.out
      have hs0 := R.out.2.2.2
      obtain ⟨S, hSk⟩ : ∃ S, nrS A k = S := ⟨_, rfl⟩
      rw [hSk] at hS hs0 ⊢
      clear R ha hP hSk P0 B0
      by_cases h1 : a < -2147483648
      · have e1 : decide (a < -2147483648) = true := by simpa using h1
        have NO := Lib.hid (NF.out (.inl h1))
        clear h1 hsq hS
        go_wp2_with fail
        go_ret
        exact ⟨by rw [NO.out]; rfl, HR.out.1⟩
      · have e1 : decide (a < -2147483648) = false := by simpa using h1
        by_cases h2 : 2147483648 < a
        · have e2 : decide (2147483648 < a) = true := by simpa using h2
          have NO := Lib.hid (NF.out (.inr h2))
          clear h1 h2 hsq hS
          go_wp2_with fail
          go_ret
          exact ⟨by rw [NO.out]; rfl, HR.out.1⟩
        · have e2 : decide (2147483648 < a) = false := by simpa using h2
          have hPb : P ≤ 4611686018427387904 := by
            have h3 : a.natAbs ≤ 2147483648 := by omega
            have h4 : a.natAbs * a.natAbs ≤ 2147483648 * 2147483648 := Nat.mul_le_mul h3 h3
            have h5 : a * a = ((a.natAbs * a.natAbs : Nat) : Int) := Int.natAbs_mul_self.symm
            omega
          have kw : IntKind.i64.wrap (a * a) = (P : Int) := by rw [hsq]; exact IntWalk.i64_in _ (by omega)
          have HA2 := Lib.hid (show -2147483648 ≤ a ∧ a ≤ 2147483648 by omega)
          clear h1 h2 hsq
          go_upto_region 7 with fail
          obtain ⟨Q, hQ⟩ : ∃ Q, P / 4 = Q := ⟨_, rfl⟩
          have kq : IntKind.i64.wrap ((P : Int) / 4) = (Q : Int) := by rw [show ((P : Int) / 4) = (Q : Int) by omega]; exact IntWalk.i64_in _ (by omega)
          rw [hQ] at hS
          obtain ⟨T, hT⟩ : ∃ T, S + Q = T := ⟨_, rfl⟩
          have hTi : (S : Int) + (Q : Int) = (T : Int) := by omega
          have kt : IntKind.i64.wrap ((S : Int) + (Q : Int)) = (T : Int) := by rw [hTi]; exact IntWalk.i64_in _ (by omega)
          have tb0 : (0 : Int) ≤ (T : Int) := Int.natCast_nonneg _
          have tb1 : (T : Int) < 4611686018427387904 := by omega
          rw [hT] at hS
          rw [hS] at NM
          have HS := Lib.hid hS
          clear hPb hQ hT hs0 hS
          refine wp_region_M (fun w' => w'.cell? ⟨w.heap.size, k, none⟩ = some (.int .i64 a)) 8 (by kernel_rfl) ?_ (fun hHeld => ?_)
          · exact b0
          refine wpAnyM_take 0 (v := ?_) rfl (by kernel_rfl) (fun _ _ _ h => h) (Or.inl ⟨by rfl, ?_⟩) (by assumption) ?_
          rotate_left
          · (intro wx hSw; (try dsimp only at hSw); go_simp; (try with_reducible rfl))
          (try simp only [Act.put, nA, nB, nC])
          refine wpAnyM_take 1 (v := ?_) rfl (by kernel_rfl) (fun _ _ _ h => h) (Or.inl ⟨by rfl, ?_⟩) (by assumption) ?_
          rotate_left
          · (intro wx hSw; (try dsimp only at hSw); go_simp; (try with_reducible rfl))
          (try simp only [Act.put, nA, nB, nC])
          refine wpAnyM_take 2 (v := ?_) rfl (by kernel_rfl) (fun _ _ _ h => h) (Or.inl ⟨by rfl, ?_⟩) (by assumption) ?_
          rotate_left
          · (intro wx hSw; (try dsimp only at hSw); go_simp; (try with_reducible rfl))
          (try simp only [Act.put, nA, nB, nC])
          refine wpAnyM_take 3 (v := ?_) rfl (by kernel_rfl) (fun _ _ _ h => h) (Or.inl ⟨by rfl, ?_⟩) (by assumption) ?_
          rotate_left
          · (intro wx hSw; (try dsimp only at hSw); go_simp; (try with_reducible rfl))
          (try simp only [Act.put, nA, nB, nC])
          refine wpAnyM_take 4 (v := ?_) rfl (by kernel_rfl) (fun _ _ _ h => h) (Or.inl ⟨by rfl, ?_⟩) (by assumption) ?_
          rotate_left
          · (intro wx hSw; (try dsimp only at hSw); go_simp; (try with_reducible rfl))
          (try simp only [Act.put, nA, nB, nC])
          refine wpAnyM_take 5 (v := ?_) rfl (by kernel_rfl) (fun _ _ _ h => h) (Or.inl ⟨by rfl, ?_⟩) (by assumption) ?_
          rotate_left
          · (intro wx hSw; (try dsimp only at hSw); go_simp; (try with_reducible rfl))
          (try simp only [Act.put, nA, nB, nC])
          refine wpAnyM_take 6 (v := ?_) rfl (by kernel_rfl) (fun _ _ _ h => h) (Or.inl ⟨by rfl, ?_⟩) (by assumption) ?_
          rotate_left
          · (intro wx hSw; go_simp; (try rw [kw]); (try with_reducible rfl))
          (try simp only [Act.put, nA, nB, nC])
          refine wpAnyM_take 7 (v := ?_) rfl (by kernel_rfl) (fun _ _ _ h => h) (Or.inl ⟨by rfl, ?_⟩) (by assumption) ?_
          rotate_left
          · (intro wx hSw; go_simp; (try rw [kq]); (try with_reducible rfl))
          (try simp only [Act.put, nA, nB, nC])
          refine wpAnyM_one 8 rfl (by kernel_rfl) (fun K hK => ?_)
          go_simp
          refine hK.out _ _ (.inl (by kernel_rfl)) (fun _ => ?_)
          clear hK K
          (try simp only [Act.put, nA, nB, nC])
          refine wpAnyM_done (by kernel_rfl) ?_ _
          (try clear hHeld)
          have HR7 := Lib.hid (show Below w.heap.size w wr.drew ∧ Blk wr.drew w.heap.size 99 4 A ∧ (∀ i, i < k → -2147483648 ≤ A i ∧ A i ≤ 2147483648) from ⟨HR.out.1.drew, HR.out.2.1, HR.out.2.2.1⟩)
          clear b0 kw kq HR
          generalize wr.drew = W7 at *
          go_upto_region 9 with fail
          (try rw [kt]); (try rw [hTi])
          by_cases h3 : 576460752303423488 < T
          · have e3 : decide (576460752303423488 < T) = true := by simpa using h3
            have e4 : decide ((576460752303423488 : Int) < (T : Int)) = true := by simp; omega
            have NO := Lib.hid (NM.out h3)
            clear h3
            go_wp2_with fail
            go_ret
            exact ⟨by rw [NO.out]; rfl, HR7.out.1⟩
          · have e3 : decide (576460752303423488 < T) = false := by simpa using h3
            have e4 : decide ((576460752303423488 : Int) < (T : Int)) = false := by simp; omega
            have H3 := Lib.hid h3
            clear h3 NM NF
            go_wp2_with fail
            go_roundw
            case rel =>
              refine ⟨k + 1, by omega, by rw [HS.out], by go_num, Lib.hid ⟨HR7.out.1, HR7.out.2.1, fun i hi => ?_, by rw [HS.out]; have := H3.out; omega⟩⟩
              by_cases e : i = k
              · subst e; rw [EA.out]; exact HA2.out
              · exact HR7.out.2.2 i (by omega)
            case measure => simp [intOf]; omega
    · obtain rfl : k = 4 := by omega
      rw [show ((4 : Nat) : Int) = 4 from rfl]
      have HE := Lib.hid (near_end A)
      have hs0 := R.out.2.2.2
      have HR := Lib.hid R.out
      obtain ⟨S, hSk⟩ : ∃ S, nrS A 4 = S := ⟨_, rfl⟩
      rw [hSk] at HE hs0 ⊢
      clear R hSk hlt hk P0 B0
      go_wp2_with fail
      go_loopw [6, 7] (fun v6 v7 wq => ∃ k : Nat, k ≤ 4 ∧ v6 = .int .i64 (nrT A k : Nat) ∧ v7 = .int .i64 k ∧ Hid (Below w.heap.size w wq ∧ Blk wq w.heap.size 99 4 A)) (fun _ v7 _ => 4 - (intOf v7).toNat)
      case atStart => exact ⟨0, by omega, rfl, rfl, Lib.hid ⟨HR.out.1, HR.out.2.1⟩⟩
      case round =>
        obtain ⟨k, hk, rfl, rfl, R⟩ := hrel
        rename World => wr'
        have hT0 := nrT_bd A k
        by_cases hlt : k < 4
        · have d1 : decide ((k : Int) < 4) = true := by simp; omega
          have b0 := R.out.2.cell (i := k) hlt
          have k0 : (0 : Int) ≤ (k : Int) := Int.natCast_nonneg _
          have k1 : (k : Int) < 4 := by omega
          have hsq := sqN_int A k
          have hS2 : nrT A (k + 1) = nrT A k + sqN A k % 4 := rfl
          have hbd := HR.out.2.2.1 k hlt
          obtain ⟨a, ha⟩ : ∃ a, A k = a := ⟨_, rfl⟩
          obtain ⟨P, hP⟩ : ∃ P, sqN A k = P := ⟨_, rfl⟩
          rw [ha] at b0 hsq hbd
          rw [hP] at hsq hS2
          obtain ⟨U, hU⟩ : ∃ U, nrT A k = U := ⟨_, rfl⟩
          rw [hU] at hS2 hT0 ⊢
          have hPb : P ≤ 4611686018427387904 := by
            have h3 : a.natAbs ≤ 2147483648 := by omega
            have h4 : a.natAbs * a.natAbs ≤ 2147483648 * 2147483648 := Nat.mul_le_mul h3 h3
            have h5 : a * a = ((a.natAbs * a.natAbs : Nat) : Int) := Int.natAbs_mul_self.symm
            omega
          have kw : IntKind.i64.wrap (a * a) = (P : Int) := by rw [hsq]; exact IntWalk.i64_in _ (by omega)
          obtain ⟨Q, hQ⟩ : ∃ Q, P % 4 = Q := ⟨_, rfl⟩
          have kq : IntKind.i64.wrap ((P : Int) % 4) = (Q : Int) := by rw [show ((P : Int) % 4) = (Q : Int) by omega]; exact IntWalk.i64_in _ (by omega)
          have kq' : (P : Int).tmod 4 = (Q : Int) := by rw [Int.tmod_eq_emod_of_nonneg (by omega)]; omega
          rw [hQ] at hS2
          obtain ⟨T, hT⟩ : ∃ T, U + Q = T := ⟨_, rfl⟩
          have hTi : (U : Int) + (Q : Int) = (T : Int) := by omega
          have kt : IntKind.i64.wrap ((U : Int) + (Q : Int)) = (T : Int) := by rw [hTi]; exact IntWalk.i64_in _ (by omega)
          have tb0 : (0 : Int) ≤ (T : Int) := Int.natCast_nonneg _
          have tb1 : (T : Int) < 100 := by omega
          rw [hT] at hS2
          have kT : IntKind.i64.wrap (T : Int) = (T : Int) := IntWalk.i64_in _ (by omega)
          have HS2 := Lib.hid hS2
          clear hPb hQ hT hS2 hbd hsq ha hP hU hT0
          go_upto_region 15 with fail
          refine wp_region_M (fun w' => w'.cell? ⟨w.heap.size, k, none⟩ = some (.int .i64 a)) 10 (by kernel_rfl) ?_ (fun hHeld => ?_)
          · exact b0
          refine wpAnyM_take 0 (v := ?_) rfl (by kernel_rfl) (fun _ _ _ h => h) (Or.inl ⟨by rfl, ?_⟩) (by assumption) ?_
          rotate_left
          · (intro wx hSw; (try dsimp only at hSw); go_simp; (try with_reducible rfl))
          (try simp only [Act.put, nA, nB, nC])
          refine wpAnyM_take 1 (v := ?_) rfl (by kernel_rfl) (fun _ _ _ h => h) (Or.inl ⟨by rfl, ?_⟩) (by assumption) ?_
          rotate_left
          · (intro wx hSw; (try dsimp only at hSw); go_simp; (try with_reducible rfl))
          (try simp only [Act.put, nA, nB, nC])
          refine wpAnyM_take 2 (v := ?_) rfl (by kernel_rfl) (fun _ _ _ h => h) (Or.inl ⟨by rfl, ?_⟩) (by assumption) ?_
          rotate_left
          · (intro wx hSw; (try dsimp only at hSw); go_simp; (try with_reducible rfl))
          (try simp only [Act.put, nA, nB, nC])
          refine wpAnyM_take 3 (v := ?_) rfl (by kernel_rfl) (fun _ _ _ h => h) (Or.inl ⟨by rfl, ?_⟩) (by assumption) ?_
          rotate_left
          · (intro wx hSw; (try dsimp only at hSw); go_simp; (try with_reducible rfl))
          (try simp only [Act.put, nA, nB, nC])
          refine wpAnyM_take 4 (v := ?_) rfl (by kernel_rfl) (fun _ _ _ h => h) (Or.inl ⟨by rfl, ?_⟩) (by assumption) ?_
          rotate_left
          · (intro wx hSw; (try dsimp only at hSw); go_simp; (try with_reducible rfl))
          (try simp only [Act.put, nA, nB, nC])
          refine wpAnyM_take 5 (v := ?_) rfl (by kernel_rfl) (fun _ _ _ h => h) (Or.inl ⟨by rfl, ?_⟩) (by assumption) ?_
          rotate_left
          · (intro wx hSw; (try dsimp only at hSw); go_simp; (try with_reducible rfl))
          (try simp only [Act.put, nA, nB, nC])
          refine wpAnyM_take 6 (v := ?_) rfl (by kernel_rfl) (fun _ _ _ h => h) (Or.inl ⟨by rfl, ?_⟩) (by assumption) ?_
          rotate_left
          · (intro wx hSw; (try dsimp only at hSw); go_simp; (try with_reducible rfl))
          (try simp only [Act.put, nA, nB, nC])
          refine wpAnyM_take 7 (v := ?_) rfl (by kernel_rfl) (fun _ _ _ h => h) (Or.inl ⟨by rfl, ?_⟩) (by assumption) ?_
          rotate_left
          · (intro wx hSw; go_simp; (try rw [kw]); (try with_reducible rfl))
          (try simp only [Act.put, nA, nB, nC])
          refine wpAnyM_take 8 (v := ?_) rfl (by kernel_rfl) (fun _ _ _ h => h) (Or.inl ⟨by rfl, ?_⟩) (by assumption) ?_
          rotate_left
          · (intro wx hSw; go_simp; (first | rw [kq] | rw [kq'] | skip); (try with_reducible rfl))
          (try simp only [Act.put, nA, nB, nC])
          refine wpAnyM_take 9 (v := ?_) rfl (by kernel_rfl) (fun _ _ _ h => h) (Or.inl ⟨by rfl, ?_⟩) (by assumption) ?_
          rotate_left
          · (intro wx hSw; go_simp; (first | rw [kT] | rw [kt] | rw [hTi] | skip); (try with_reducible rfl))
          (try simp only [Act.put, nA, nB, nC])
          refine wpAnyM_one 10 rfl (by kernel_rfl) (fun K hK => ?_)
          go_simp
          refine hK.out _ _ (.inl (by kernel_rfl)) (fun _ => ?_)
          clear hK K
          (try simp only [Act.put, nA, nB, nC])
          refine wpAnyM_done (by kernel_rfl) ?_ _
          (try clear hHeld)
          have HR7 := Lib.hid (show Below w.heap.size w wr'.drew ∧ Blk wr'.drew w.heap.size 99 4 A from ⟨R.out.1.drew, R.out.2⟩)
          clear b0 kw kq kq' kt hTi
          go_wp2_with fail
          go_roundw
          case rel => exact ⟨k + 1, by omega, by rw [HS2.out], by go_num, HR7⟩
          case measure => simp [intOf]; omega
        · obtain rfl : k = 4 := by omega
          rw [show ((4 : Nat) : Int) = 4 from rfl]
          obtain ⟨U, hU⟩ : ∃ U, nrT A 4 = U := ⟨_, rfl⟩
          rw [hU] at hT0 HE ⊢
          have w1 : IntKind.i64.wrap ((S : Int) - 288230376151711744) = (S : Int) - 288230376151711744 := IntWalk.i64_in _ (by omega)
          have w2 : IntKind.i64.wrap (4 * ((S : Int) - 288230376151711744)) = 4 * ((S : Int) - 288230376151711744) := IntWalk.i64_in _ (by omega)
          have w3 : IntKind.i64.wrap (4 * ((S : Int) - 288230376151711744) + (U : Int)) = 4 * ((S : Int) - 288230376151711744) + (U : Int) := IntWalk.i64_in _ (by omega)
          have HB := Lib.hid R.out.1
          clear R hlt hk hU HR
          go_upto_region 17 with fail
          obtain ⟨d, hd⟩ : ∃ d, 4 * ((S : Int) - 288230376151711744) + (U : Int) = d := ⟨_, rfl⟩
          rw [hd] at HE ⊢
          clear w1 w2 w3 hd
          by_cases g : -4294967296 ≤ d
          · have g1 : decide (-4294967296 ≤ d) = true := by simpa using g
            by_cases g' : d ≤ 4294967296
            · have g2 : decide (d ≤ 4294967296) = true := by simpa using g'
              clear g g'
              go_wp2_with fail
              go_ret
              exact ⟨by rw [HE.out, g1, g2]; rfl, HB.out⟩
            · have g2 : decide (d ≤ 4294967296) = false := by simpa using g'
              clear g g'
              go_wp2_with fail
              go_ret
              exact ⟨by rw [HE.out, g1, g2]; rfl, HB.out⟩
          · have g1 : decide (-4294967296 ≤ d) = false := by simpa using g
            clear g
            go_wp2_with fail
            go_ret
            exact ⟨by rw [HE.out, g1]; rfl, HB.out⟩
end Go.Proofs.YtiajjiphknlldaaGreat
/- Contracts of the reference's estimate (1): Att, turn, Bound, Part. -/
namespace Go.Proofs.YtiajjiphknlldaaGreat
open Go.RowKit
set_option maxRecDepth 100000
theorem ratt_any (S : Nat → Int) (w : World) : Calls Tryz.prog 44 #[.agg (arrv 24 S)] w fun e w' => e = .returned (.agg (arrv 4 S)) ∧ Below w.heap.size w w' := by
  have P0 : Blk ((w.alloc (.cells (arrv 24 S) 23)).alloc (.cells #[.int .i64 0, .int .i64 0, .int .i64 0, .int .i64 0] 99)) w.heap.size 23 24 S := (Blk.new w _ 24 _).alloc _
  have R0 : Blk ((w.alloc (.cells (arrv 24 S) 23)).alloc (.cells #[.int .i64 0, .int .i64 0, .int .i64 0, .int .i64 0] 99)) (w.heap.size + 1) 99 4 (fun _ => 0) := by rw [zq4]; exact Blk.new1 w _ _ 4 _
  have B0 : Below w.heap.size w ((w.alloc (.cells (arrv 24 S) 23)).alloc (.cells #[.int .i64 0, .int .i64 0, .int .i64 0, .int .i64 0] 99)) := by (repeat (first | with_reducible exact Below.refl _ _ | with_reducible apply Below.drew | (with_reducible refine below_drewN ?_ _) | (with_reducible refine Below.alloc ?_ (by (try simp) <;> omega) _) | (with_reducible refine Below.setCell ?_ (by (try simp) <;> omega) _)))
  have q0 := P0.cell (i := 0) (by decide)
  have q1 := P0.cell (i := 1) (by decide)
  have q2 := P0.cell (i := 2) (by decide)
  have q3 := P0.cell (i := 3) (by decide)
  have B0 := Lib.hid B0
  have R0 := Lib.hid R0
  clear P0
  go_enter Tryz.func44, Tryz.ntmps44
  go_upto_region 1 with fail
  generalize (w.alloc (.cells (arrv 24 S) 23)).alloc (.cells #[.int .i64 0, .int .i64 0, .int .i64 0, .int .i64 0] 99) = W0 at *
  have RB := R0.out
  refine wp_region_lit ?_
  refine wpList_val (v := ?_) rfl ?_ ?_
  rotate_left
  · (go_simp; (try (first | with_reducible rfl | (constructor <;> with_reducible rfl))))
  (try simp only [Act.put, nA, nB, nC])
  refine wpList_val (v := ?_) rfl ?_ ?_
  rotate_left
  · (go_simp; (try (first | with_reducible rfl | (constructor <;> with_reducible rfl))))
  (try simp only [Act.put, nA, nB, nC])
  refine wpList_val (v := ?_) rfl ?_ ?_
  rotate_left
  · (go_simp; (try (first | with_reducible rfl | (constructor <;> with_reducible rfl))))
  (try simp only [Act.put, nA, nB, nC])
  refine wpList_val (v := ?_) rfl ?_ ?_
  rotate_left
  · (go_simp; (try (first | with_reducible rfl | (constructor <;> with_reducible rfl))))
  (try simp only [Act.put, nA, nB, nC])
  refine wpList_val (v := ?_) rfl ?_ ?_
  rotate_left
  · (go_simp; (try (first | with_reducible rfl | (constructor <;> with_reducible rfl))))
  (try simp only [Act.put, nA, nB, nC])
  refine wpList_val (v := ?_) rfl ?_ ?_
  rotate_left
  · (go_simp; (try (first | with_reducible rfl | (constructor <;> with_reducible rfl))))
  (try simp only [Act.put, nA, nB, nC])
  refine wpList_val (v := ?_) rfl ?_ ?_
  rotate_left
  · (go_simp; (try (first | with_reducible rfl | (constructor <;> with_reducible rfl))))
  (try simp only [Act.put, nA, nB, nC])
  refine wpList_val (v := ?_) rfl ?_ ?_
  rotate_left
  · (go_simp; (try (first | with_reducible rfl | (constructor <;> with_reducible rfl))))
  (try simp only [Act.put, nA, nB, nC])
  refine wpList_val (v := ?_) rfl ?_ ?_
  rotate_left
  · (go_simp; rw [show (#[.int .i64 (S 0), .int .i64 (S 1), .int .i64 (S 2), .int .i64 (S 3)] : Array Value) = arrv 4 S from arr4 S]; (try with_reducible rfl))
  (try simp only [Act.put, nA, nB, nC])
  refine wpList_done (w' := ?_) rfl ?_ ?_
  rotate_left
  · refine Eq.trans (run_store_row 99 (.tmp 2) (.tmp 11) (by rfl) (w.heap.size + 1) (by rfl) (by rfl) (RB) (irq.trans rfl)) ?_; with_reducible rfl
  (try simp only [Act.put, nA, nB, nC])
  refine wpList_nil ?_
  go_wp2_with fail
  refine bodyPost_ret (results_cell_row Tryz.results44 _ _ (w.heap.size + 1) 99 (arrv 4 S) (0, 0) _ rfl (setRow_heap _ _ _ _ _ _ RB) Tryz.underlying99 rfl (irq.trans (by rw [arrv_size]))) rfl ⟨rfl, ?_⟩
  exact below_row B0.out (by omega) _
structure RtuR (S Q g : Nat → Int) (w wr : World) : Prop where
  below : Below w.heap.size w wr
  sB : Blk wr w.heap.size 23 24 g
  qB : Blk wr (w.heap.size + 1) 99 4 Q
  rB : Blk wr (w.heap.size + 1 + 1) 23 24 (fun _ => 0)
def rtuK (S Q : Nat → Int) (k : Nat) : Nat → Int := fun i => if i < k then Q i else S i
set_option maxHeartbeats 2000000 in
theorem rturn_any (S Q : Nat → Int) (w : World) : Calls Tryz.prog 46 #[.agg (arrv 24 S), .agg (arrv 4 Q)] w fun e w' => e = .returned (.agg (arrv 24 (turnd S Q))) ∧ Below w.heap.size w w' := by
  go_enter Tryz.func46, Tryz.ntmps46
  go_upto_region 1 with fail
  have R0 : Hid (RtuR S Q (rtuK S Q 0) w (((w.alloc (.cells (arrv 24 S) 23)).alloc (.cells (arrv 4 Q) 99)).alloc (.cells #[.int .i64 0, .int .i64 0, .int .i64 0, .int .i64 0, .int .i64 0, .int .i64 0, .int .i64 0, .int .i64 0, .int .i64 0, .int .i64 0, .int .i64 0, .int .i64 0, .int .i64 0, .int .i64 0, .int .i64 0, .int .i64 0, .int .i64 0, .int .i64 0, .int .i64 0, .int .i64 0, .int .i64 0, .int .i64 0, .int .i64 0, .int .i64 0] 23))) := Lib.hid
    ⟨by (repeat (first | with_reducible exact Below.refl _ _ | with_reducible apply Below.drew | (with_reducible refine below_drewN ?_ _) | (with_reducible refine Below.alloc ?_ (by (try simp) <;> omega) _) | (with_reducible refine Below.setCell ?_ (by (try simp) <;> omega) _))), (((Blk.new w _ _ _).alloc _).alloc _).congr fun i hi => by simp [rtuK], (Blk.new1 w _ _ _ _).alloc _, by rw [zvec24]; exact blk_new2 w _ _ _ _ _⟩
  generalize ((w.alloc (.cells (arrv 24 S) 23)).alloc (.cells (arrv 4 Q) 99)).alloc (.cells #[.int .i64 0, .int .i64 0, .int .i64 0, .int .i64 0, .int .i64 0, .int .i64 0, .int .i64 0, .int .i64 0, .int .i64 0, .int .i64 0, .int .i64 0, .int .i64 0, .int .i64 0, .int .i64 0, .int .i64 0, .int .i64 0, .int .i64 0, .int .i64 0, .int .i64 0, .int .i64 0, .int .i64 0, .int .i64 0, .int .i64 0, .int .i64 0] 23) = W0 at *
  go_wp2_with fail
  go_loopw [5] (fun i wr => ∃ k : Nat, k ≤ 4 ∧ i = .int .i64 k ∧ Hid (RtuR S Q (rtuK S Q k) w wr)) (fun i _ => 4 - (intOf i).toNat)
  case atStart => exact ⟨0, by omega, rfl, R0⟩
  case round =>
    obtain ⟨k, hk, rfl, R⟩ := hrel
    clear R0
    by_cases hlt : k < 4
    · have d1 : decide ((k : Int) < 4) = true := by simp; omega
      have k0 : (0 : Int) ≤ (k : Int) := Int.natCast_nonneg _
      have k1 : (k : Int) < 4 := by omega
      have q0 := R.out.qB.cell (i := k) (by omega)
      have v0 := R.out.sB.cell (i := k) (by omega)
      have v1 := R.out.sB.free k
      go_wp2_with fail
      go_roundw
      case rel =>
        refine ⟨k + 1, by omega, by go_num, Lib.hid ⟨R.out.below.setCell (Nat.le_refl _) _, (R.out.sB.set _ _).congr fun i hi => ?_, R.out.qB.other (by simp) _, R.out.rB.other (by simp; omega) _⟩⟩
        simp only [Go.Proofs.YtiajjiphknlldaaGreat.upd, rtuK]
        by_cases h : i = k
        · subst h; rw [if_pos rfl, if_pos (by omega)]
        · rw [if_neg h]; split <;> split <;> first | rfl | omega
      case measure => simp [intOf]; omega
    · have hk4 : k = 4 := by omega
      subst hk4
      rw [show ((4 : Nat) : Int) = 4 from rfl]
      have V := R.out.sB
      have X := R.out.rB
      have B := Lib.hid R.out.below
      clear R hk hlt
      go_wp2_with (first | (refine wpList_load_row rfl 23 _ rfl (w.heap.size) rfl 23 _ (0, 0) _ (V) Tryz.underlying23 rfl (ist.trans (by rw [arrv_size])) ?_) | (refine wpList_store_row rfl 23 _ _ rfl (w.heap.size + 1 + 1) _ rfl rfl 23 _ (X) (ist.trans (by rw [arrv_size])) (by rw [arrv_size, arrv_size]) (oneCell_arrv _ _) ?_))
      refine bodyPost_ret (results_cell_row Tryz.results46 _ _ (w.heap.size + 1 + 1) 23 (arrv 24 (rtuK S Q 4)) (0, 0) _ rfl (setRow_heap _ _ _ _ _ _ X) Tryz.underlying23 rfl (ist.trans (by rw [arrv_size]))) rfl ⟨?_, below_row B.out (by omega) _⟩
      exact congrArg (fun x => Ending.returned (Value.agg x)) (arrv_congr fun i hi => rfl)
theorem rbound_any (i : Nat) (w : World) (hi : i < 24) : Calls Tryz.prog 49 #[.int .i64 i] w fun e w' => e = .returned (.int .i64 (boxF i)) ∧ w = w' := by
  by_cases h0 : i < 4
  · have d0 : decide ((i : Int) < 4) = true := by simp; omega
    have e : boxF i = 1073741840 := by unfold boxF; rw [if_pos (by omega)]
    rw [e]
    go_enter Tryz.func49, Tryz.ntmps49
    go_wp2_with fail
    go_ret
    exact ⟨rfl, rfl⟩
  · have d0 : decide ((i : Int) < 4) = false := by simp; omega
    by_cases h1 : i < 7
    · have d1 : decide ((i : Int) < 7) = true := by simp; omega
      have e : boxF i = 549755813888 := by unfold boxF; (repeat rw [if_neg (by omega)]); rw [if_pos (by omega)]
      rw [e]
      go_enter Tryz.func49, Tryz.ntmps49
      go_wp2_with fail
      go_ret
      exact ⟨rfl, rfl⟩
    · have d1 : decide ((i : Int) < 7) = false := by simp; omega
      by_cases h2 : i < 10
      · have d2 : decide ((i : Int) < 10) = true := by simp; omega
        have e : boxF i = 9007199254740992 := by unfold boxF; (repeat rw [if_neg (by omega)]); rw [if_pos (by omega)]
        rw [e]
        go_enter Tryz.func49, Tryz.ntmps49
        go_wp2_with fail
        go_ret
        exact ⟨rfl, rfl⟩
      · have d2 : decide ((i : Int) < 10) = false := by simp; omega
        by_cases h3 : i < 13
        · have d3 : decide ((i : Int) < 13) = true := by simp; omega
          have e : boxF i = 134217728 := by unfold boxF; (repeat rw [if_neg (by omega)]); rw [if_pos (by omega)]
          rw [e]
          go_enter Tryz.func49, Tryz.ntmps49
          go_wp2_with fail
          go_ret
          exact ⟨rfl, rfl⟩
        · have d3 : decide ((i : Int) < 13) = false := by simp; omega
          by_cases h4 : i < 16
          · have d4 : decide ((i : Int) < 16) = true := by simp; omega
            have e : boxF i = 1073741824 := by unfold boxF; (repeat rw [if_neg (by omega)]); rw [if_pos (by omega)]
            rw [e]
            go_enter Tryz.func49, Tryz.ntmps49
            go_wp2_with fail
            go_ret
            exact ⟨rfl, rfl⟩
          · have d4 : decide ((i : Int) < 16) = false := by simp; omega
            by_cases h5 : i < 22
            · have d5 : decide ((i : Int) < 22) = true := by simp; omega
              have e : boxF i = 2147483648 := by unfold boxF; (repeat rw [if_neg (by omega)]); rw [if_pos (by omega)]
              rw [e]
              go_enter Tryz.func49, Tryz.ntmps49
              go_wp2_with fail
              go_ret
              exact ⟨rfl, rfl⟩
            · have d5 : decide ((i : Int) < 22) = false := by simp; omega
              have e : boxF i = 137438953472 := by unfold boxF; (repeat rw [if_neg (by omega)])
              rw [e]
              go_enter Tryz.func49, Tryz.ntmps49
              go_wp2_with fail
              go_ret
              exact ⟨rfl, rfl⟩
end Go.Proofs.YtiajjiphknlldaaGreat
