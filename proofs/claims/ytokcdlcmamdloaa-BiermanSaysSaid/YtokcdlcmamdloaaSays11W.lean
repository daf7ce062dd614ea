/- The walk of the law BiermanSays: first part. -/
import Derived.Test.YtokcdlcmamdloaaQ13
import Derived.Test.YtokcdlcmamdloaaQ19
import Derived.Test.YtokcdlcmamdloaaQ18
import Derived.Test.YtokcdlcmamdloaaQ14
import Derived.Test.YtokcdlcmamdloaaQ10
namespace Go.Proofs.Ytokcdlcmamdloaa
open Go.RowKit
set_option maxRecDepth 100000
theorem says11_long (p H : Nat → Int) (r y : Int) (q : Option Addr) (n cp : Nat) (w : World) (hn : 50 < n) :
    Calls Try.prog 4 #[.agg (arrv 300 p), .agg (arrv 24 H), .int .i64 r, .int .i64 y, .slice q n cp] w fun e w' => e = .returned (.bool true) ∧ Below w.heap.size w w' := by
  have d1 : decide ((50 : Int) < (n : Int)) = true := by simp; omega
  go_enter Try.func4, Try.ntmps4
  obtain ⟨W0, hW0⟩ : ∃ x, (w.alloc (.cells (arrv 300 p) 25)).alloc (.cells (arrv 24 H) 40) = x := ⟨_, rfl⟩
  have B0 : Below w.heap.size w W0 := by rw [← hW0]; exact ((Below.refl _ _).alloc (Nat.le_refl _) _).alloc (by simp) _
  go_wp2_with (go_at_call 9; (refine (awake_any _).mono ?_); rintro e w1 ⟨rfl, hb1⟩; have B1 := Lib.hid (Below.after B0 hb1); clear hb1)
  go_ret
  exact ⟨rfl, B1.out⟩
open Go in
/-- '!=' of two covariances, of two rows. -/
theorem run_op_neqCov {o : Oper} {ev : Operand → Value} {w : World} (x y : Operand) (ho : o.op = .binOp .neq 25 x y 25) {f g : Nat → Int} (hx : ev x = .agg (arrv 300 f)) (hy : ev y = .agg (arrv 300 g)) {b : Bool} (hb : covB f g = b) :
    (execOp ev o).run Try.prog w = .ok (.value (.bool (!b))) w := by
  have e := run_equal_cov w f g
  have hG : Try.prog.eqGuardType Try.prog.depth 25 = false := by kernel_rfl
  unfold execOp
  simp only [ho, hx, hy, eqGuard, binOp, Sem.run_bind, Sem.run_pure, Result.andThen_ok]
  simp [hG, e, hb, go_sem]
open Go in
theorem run_op_neqRow {o : Oper} {ev : Operand → Value} {w : World} (x y : Operand) (ho : o.op = .binOp .neq 40 x y 40) {f g : Nat → Int} (hx : ev x = .agg (arrv 24 f)) (hy : ev y = .agg (arrv 24 g)) {b : Bool} (hb : eqB 24 f g = b) :
    (execOp ev o).run Try.prog w = .ok (.value (.bool (!b))) w := by
  have e := run_equal_row w f g
  have hG : Try.prog.eqGuardType Try.prog.depth 40 = false := by kernel_rfl
  unfold execOp
  simp only [ho, hx, hy, eqGuard, binOp, Sem.run_bind, Sem.run_pure, Result.andThen_ok]
  simp [hG, e, hb, go_sem]
/-- The arguments' blocks. -/
structure SyR (p H : Nat → Int) (w wr : World) : Prop where
  below : Below w.heap.size w wr
  pB : Blk wr w.heap.size 25 300 p
  hB : Blk wr (w.heap.size + 1) 40 24 H
theorem SyR.down {p H : Nat → Int} {w wr w' : World} (s : SyR p H w wr) (b : Below wr.heap.size wr w') : SyR p H w w' :=
  ⟨s.below.trans (b.mono s.below.size), s.pB.below b, s.hB.below b⟩
theorem SyR.upd' {p H : Nat → Int} {w wr w' : World} (s : SyR p H w wr) {c : Addr} {h : Bool} (hc : w.heap.size + 1 < c.block) (u : Upd c h wr w') : SyR p H w w' :=
  ⟨own_upd s.below (by omega) u, s.pB.upd u (by omega), s.hB.upd u (by omega)⟩
structure SyK (bs be : Nat) (L : Nat → Int) (k : Nat) (GB : Bool) (w : World) : Prop where
  row : Blk w bs 40 24 (pkS L k)
  f0 : w.cell? ⟨be, 0, none⟩ = some (.bool GB)
  f1 : w.cell? ⟨be + 1, 0, none⟩ = some (.bool GB)
theorem SyK.down {bs be : Nat} {L : Nat → Int} {k : Nat} {GB : Bool} {wr w' : World} (s : SyK bs be L k GB wr) (b : Below wr.heap.size wr w') : SyK bs be L k GB w' :=
  ⟨s.row.below b, (b.cell (World.block_lt_of_cell? _ _ s.f0)).trans s.f0, (b.cell (World.block_lt_of_cell? _ _ s.f1)).trans s.f1⟩
theorem icol_row : (Try.prog.info? 23).map (·.size) = some 24 := icol
set_option maxHeartbeats 8000000 in
theorem says11_walk (p H : Nat → Int) (r y : Int) (q : Option Addr) (n cp : Nat) (L : Nat → Int) (w : World) (hn : n ≤ 50) (hL : Slc w q n L) :
    Calls Try.prog 4 #[.agg (arrv 300 p), .agg (arrv 24 H), .int .i64 r, .int .i64 y, .slice q n cp] w fun e w' => e = .returned (.bool true) ∧ Below w.heap.size w w' := by
  have d1 : decide ((50 : Int) < (n : Int)) = false := by simp; omega
  have HN := Lib.hid hn
  have HL := Lib.hid hL
  clear hn hL
  go_enter Try.func4, Try.ntmps4
  obtain ⟨W0, hW0⟩ : ∃ x, (w.alloc (.cells (arrv 300 p) 25)).alloc (.cells (arrv 24 H) 40) = x := ⟨_, rfl⟩
  have S0 : SyR p H w W0 := by rw [← hW0]; exact ⟨((Below.refl _ _).alloc (Nat.le_refl _) _).alloc (by simp) _, (Blk.new w _ _ _).alloc _, Blk.new1 w _ _ _ _⟩
  go_upto_region 5 with (go_at_call 9; (refine (awake_any _).mono ?_); rintro e w1 ⟨rfl, hb1⟩; have S1 := Lib.hid (S0.down hb1); clear hb1)
  clear S0 hW0 d1
  have hz1 : w.heap.size + 1 < w1.heap.size := S1.out.hB.lt
  obtain ⟨W2, hW2⟩ : ∃ x, (w1.alloc (.cells #[.bool false] 31)).alloc (.cells #[.bool false] 35) = x := ⟨_, rfl⟩
  have B12 : Below w1.heap.size w1 W2 := by rw [← hW2]; (repeat (first | with_reducible exact Below.refl _ _ | with_reducible apply Below.drew | (with_reducible refine below_drewN ?_ _) | (with_reducible refine Below.alloc ?_ (by (try simp) <;> omega) _) | (with_reducible refine Below.setCell ?_ (by (try simp) <;> omega) _)))
  have S2 := Lib.hid (S1.out.down B12)
  have kc : W2.cell? ⟨w1.heap.size, 0, none⟩ = some (.bool false) ∧ W2.frozen? ⟨w1.heap.size, 0, none⟩ = false ∧ W2.cell? ⟨w1.heap.size + 1, 0, none⟩ = some (.bool false) ∧ W2.frozen? ⟨w1.heap.size + 1, 0, none⟩ = false ∧ W2.heap.size = w1.heap.size + 2 := by
    rw [← hW2]; refine ⟨by simp [go_sem], by simp [go_sem], by simp [go_sem], by simp [go_sem], by simp⟩
  have KC := Lib.hid kc
  clear kc B12
  go_upto_region 7 with fail
  obtain ⟨bc, hbc⟩ : ∃ x, w1.heap.size = x := ⟨_, rfl⟩
  rw [hbc] at KC hz1 ⊢
  clear hW2 hbc S1 w1
  have P2 := S2.out.pB
  have H2 := S2.out.hB
  have UC := Lib.hid (update_any ⟨bc, 0, none⟩ false p H r W2 KC.out.1 KC.out.2.1)
  obtain ⟨UP, hUP⟩ : ∃ x, updP p H r = x := ⟨_, rfl⟩
  obtain ⟨UG, hUG⟩ : ∃ x, updG p H r = x := ⟨_, rfl⟩
  obtain ⟨US, hUS⟩ : ∃ x, updS p H r = x := ⟨_, rfl⟩
  obtain ⟨UH, hUH⟩ : ∃ x, updH p H r = x := ⟨_, rfl⟩
  rw [hUP, hUG, hUS, hUH, Bool.false_or] at UC
  have HK := Lib.hid (And.intro hUP (And.intro hUG (And.intro hUS hUH)))
  clear hUP hUG hUS hUH
  go_upto_region 8 with (first | (refine wpList_load_row rfl 25 _ rfl (w.heap.size) rfl 25 _ (0, 0) _ (P2) Try.underlying25 rfl (icov.trans (by rw [arrv_size])) ?_) | (refine wpList_load_row rfl 40 _ rfl (w.heap.size + 1) rfl 40 _ (0, 0) _ (H2) Try.underlying40 rfl (irow.trans (by rw [arrv_size])) ?_) | (go_at_call 10; (refine UC.out.mono ?_); rintro e w3 ⟨rfl, hu3⟩; have S3 := Lib.hid (S2.out.upd' (show w.heap.size + 1 < bc by omega) hu3); have c3 := Lib.hid (And.intro (hu3.cellc KC.out.1) (And.intro ((hu3.cell (a := ⟨bc + 1, 0, none⟩) (by have := KC.out.2.2.2.2; simp; omega) (by simp)).trans KC.out.2.2.1) ((hu3.frozen (a := ⟨bc + 1, 0, none⟩) (by have := KC.out.2.2.2.2; simp; omega)).trans KC.out.2.2.2.1))); have hz3 : bc + 1 < w3.heap.size := (by have := hu3.size; have := KC.out.2.2.2.2; omega); (have RA : Blk ((w3.alloc (.cells Try.zeroCells25 25)).alloc (.cells #[.int .i64 0, .int .i64 0, .int .i64 0, .int .i64 0, .int .i64 0, .int .i64 0, .int .i64 0, .int .i64 0, .int .i64 0, .int .i64 0, .int .i64 0, .int .i64 0, .int .i64 0, .int .i64 0, .int .i64 0, .int .i64 0, .int .i64 0, .int .i64 0, .int .i64 0, .int .i64 0, .int .i64 0, .int .i64 0, .int .i64 0, .int .i64 0] 40)) w3.heap.size 25 300 (fun _ => 0) := (by rw [zcov]; exact (Blk.new _ _ _ _).alloc _); have RB : Blk (((w3.alloc (.cells Try.zeroCells25 25)).alloc (.cells #[.int .i64 0, .int .i64 0, .int .i64 0, .int .i64 0, .int .i64 0, .int .i64 0, .int .i64 0, .int .i64 0, .int .i64 0, .int .i64 0, .int .i64 0, .int .i64 0, .int .i64 0, .int .i64 0, .int .i64 0, .int .i64 0, .int .i64 0, .int .i64 0, .int .i64 0, .int .i64 0, .int .i64 0, .int .i64 0, .int .i64 0, .int .i64 0] 40)).setRow w3.heap.size (arrv 300 (UP))) (w3.heap.size + 1) 40 24 (fun _ => 0) := (by rw [zrow]; exact (Blk.new1 _ _ _ _ _).setRow_other _ (by omega))); clear hu3) | (refine wpList_store_row rfl 25 _ _ rfl (w3.heap.size) _ rfl rfl 25 _ (RA) (icov.trans (by rw [arrv_size])) (by rw [arrv_size, arrv_size]) (oneCell_arrv _ _) ?_) | (refine wpList_store_row rfl 40 _ _ rfl (w3.heap.size + 1) _ rfl rfl 40 _ (RB) (irow.trans (by rw [arrv_size])) (by rw [arrv_size, arrv_size]) (oneCell_arrv _ _) ?_))
  obtain ⟨w4, hw4⟩ : ∃ x, x = ((((w3.alloc (.cells Try.zeroCells25 25)).alloc (.cells #[.int .i64 0, .int .i64 0, .int .i64 0, .int .i64 0, .int .i64 0, .int .i64 0, .int .i64 0, .int .i64 0, .int .i64 0, .int .i64 0, .int .i64 0, .int .i64 0, .int .i64 0, .int .i64 0, .int .i64 0, .int .i64 0, .int .i64 0, .int .i64 0, .int .i64 0, .int .i64 0, .int .i64 0, .int .i64 0, .int .i64 0, .int .i64 0] 40)).setRow w3.heap.size (arrv 300 (UP))).setRow (w3.heap.size + 1) (arrv 24 (UG))) := ⟨_, rfl⟩; rw [← hw4]; obtain ⟨M0, M1, MB⟩ := two_made _ _ hw4; clear hw4
  have S4 := Lib.hid (S3.out.down MB)
  have c4 := Lib.hid (And.intro ((MB.cell (p := ⟨bc, 0, none⟩) (by simp; omega)).trans c3.out.1) (And.intro ((MB.cell (p := ⟨bc + 1, 0, none⟩) (by simp; omega)).trans c3.out.2.1) ((MB.frozen (p := ⟨bc + 1, 0, none⟩) (by simp; omega)).trans c3.out.2.2)))
  obtain ⟨ba, hba⟩ : ∃ x, w3.heap.size = x := ⟨_, rfl⟩
  rw [hba] at M0 M1 hz3 ⊢
  clear hba MB S3 S2 P2 H2 UC KC RA RB c3 W0 W2 w3
  have P4 := S4.out.pB
  have H4 := S4.out.hB
  have hz4 : ba + 1 < w4.heap.size := M1.lt
  have RC := Lib.hid (rupd_any ⟨bc + 1, 0, none⟩ false p H r w4 c4.out.2.1 c4.out.2.2)
  rw [HK.out.1, HK.out.2.1, HK.out.2.2.1, HK.out.2.2.2, Bool.false_or] at RC
  have HM := Lib.hid (And.intro M0 M1)
  clear M0 M1
  go_upto_region 8 with fail
  refine wp_region_lit ?_
  refine wpList_val (v := ?_) rfl ?_ ?_
  rotate_left
  · (go_simp; (try (first | with_reducible rfl | (constructor <;> with_reducible rfl))))
  (try simp only [Act.put, List.setIfInBounds_toArray, List.set_cons_zero, List.set_cons_succ])
  refine wpList_val (v := ?_) rfl ?_ ?_
  rotate_left
  · refine Eq.trans (run_load_row 25 (.tmp 5) (by rfl) (w.heap.size) (by rfl) _ _ _ _ (P4) Try.underlying25 rfl (icov.trans (by rw [arrv_size]))) ?_; with_reducible rfl
  (try simp only [Act.put, List.setIfInBounds_toArray, List.set_cons_zero, List.set_cons_succ])
  refine wpList_val (v := ?_) rfl ?_ ?_
  rotate_left
  · refine Eq.trans (run_load_row 40 (.tmp 6) (by rfl) (w.heap.size + 1) (by rfl) _ _ _ _ (H4) Try.underlying40 rfl (irow.trans (by rw [arrv_size]))) ?_; with_reducible rfl
  (try simp only [Act.put, List.setIfInBounds_toArray, List.set_cons_zero, List.set_cons_succ])
  refine wpList_val (v := ?_) rfl ?_ ?_
  rotate_left
  · (go_simp; (try (first | with_reducible rfl | (constructor <;> with_reducible rfl))))
  (try simp only [Act.put, List.setIfInBounds_toArray, List.set_cons_zero, List.set_cons_succ])
  refine wpList_step (fun K hK => ?_)
  go_simp
  (refine RC.out.mono ?_); rintro e w5 ⟨rfl, hu5⟩; have S5 := Lib.hid (S4.out.upd' (show w.heap.size + 1 < bc + 1 by omega) hu5); have HM5 := Lib.hid (And.intro (HM.out.1.upd hu5 (show ba ≠ bc + 1 by omega)) (HM.out.2.upd hu5 (show ba + 1 ≠ bc + 1 by omega))); have c5 := Lib.hid (And.intro ((hu5.cell (a := ⟨bc, 0, none⟩) (by simp; omega) (by simp)).trans c4.out.1) (hu5.cellc c4.out.2.1)); have hz5 : ba + 1 < w5.heap.size := (by have := hu5.size; omega); have RA : Blk ((w5.alloc (.cells Try.zeroCells25 25)).alloc (.cells #[.int .i64 0, .int .i64 0, .int .i64 0, .int .i64 0, .int .i64 0, .int .i64 0, .int .i64 0, .int .i64 0, .int .i64 0, .int .i64 0, .int .i64 0, .int .i64 0, .int .i64 0, .int .i64 0, .int .i64 0, .int .i64 0, .int .i64 0, .int .i64 0, .int .i64 0, .int .i64 0, .int .i64 0, .int .i64 0, .int .i64 0, .int .i64 0] 23)) w5.heap.size 25 300 (fun _ => 0) := (by rw [zcov]; exact (Blk.new _ _ _ _).alloc _); have RB : Blk (((w5.alloc (.cells Try.zeroCells25 25)).alloc (.cells #[.int .i64 0, .int .i64 0, .int .i64 0, .int .i64 0, .int .i64 0, .int .i64 0, .int .i64 0, .int .i64 0, .int .i64 0, .int .i64 0, .int .i64 0, .int .i64 0, .int .i64 0, .int .i64 0, .int .i64 0, .int .i64 0, .int .i64 0, .int .i64 0, .int .i64 0, .int .i64 0, .int .i64 0, .int .i64 0, .int .i64 0, .int .i64 0] 23)).setRow w5.heap.size (arrv 300 UP)) (w5.heap.size + 1) 23 24 (fun _ => 0) := (by rw [zcol]; exact (Blk.new1 _ _ _ _ _).setRow_other _ (by omega)); clear hu5
  (try dsimp only)
  (try simp only [Act.put, List.setIfInBounds_toArray, List.set_cons_zero, List.set_cons_succ])
  refine hK _ _ ?_
  clear hK K
  refine wpList_val (v := ?_) rfl ?_ ?_
  rotate_left
  · (go_simp; (try (first | with_reducible rfl | (constructor <;> with_reducible rfl))))
  (try simp only [Act.put, List.setIfInBounds_toArray, List.set_cons_zero, List.set_cons_succ])
  refine wpList_val (v := ?_) rfl ?_ ?_
  rotate_left
  · (go_simp; (try (first | with_reducible rfl | (constructor <;> with_reducible rfl))))
  (try simp only [Act.put, List.setIfInBounds_toArray, List.set_cons_zero, List.set_cons_succ])
  refine wpList_val (v := ?_) rfl ?_ ?_
  rotate_left
  · (go_simp; (try (first | with_reducible rfl | (constructor <;> with_reducible rfl))))
  (try simp only [Act.put, List.setIfInBounds_toArray, List.set_cons_zero, List.set_cons_succ])
  refine wpList_val (v := ?_) rfl ?_ ?_
  rotate_left
  · (go_simp; (try (first | with_reducible rfl | (constructor <;> with_reducible rfl))))
  (try simp only [Act.put, List.setIfInBounds_toArray, List.set_cons_zero, List.set_cons_succ])
  refine wpList_act (v := ?_) (w' := ?_) rfl ?_ ?_
  rotate_left 2
  · (go_simp; (try (first | with_reducible rfl | (constructor <;> with_reducible rfl))))
  (try simp only [Act.put, List.setIfInBounds_toArray, List.set_cons_zero, List.set_cons_succ])
  refine wpList_act (v := ?_) (w' := ?_) rfl ?_ ?_
  rotate_left 2
  · (go_simp; (try (first | with_reducible rfl | (constructor <;> with_reducible rfl))))
  (try simp only [Act.put, List.setIfInBounds_toArray, List.set_cons_zero, List.set_cons_succ])
  refine wpList_done (w' := ?_) rfl ?_ ?_
  rotate_left
  · refine Eq.trans (run_store_row 25 (.tmp 16) (.tmp 47) (by rfl) (w5.heap.size) (by rfl) (by rfl) (RA) (icov.trans rfl)) ?_; with_reducible rfl
  (try simp only [Act.put, List.setIfInBounds_toArray, List.set_cons_zero, List.set_cons_succ])
  refine wpList_done (w' := ?_) rfl ?_ ?_
  rotate_left
  · refine Eq.trans (run_store_row 23 (.tmp 17) (.tmp 48) (by rfl) (w5.heap.size + 1) (by rfl) (by rfl) (RB) (icol.trans rfl)) ?_; with_reducible rfl
  (try simp only [Act.put, List.setIfInBounds_toArray, List.set_cons_zero, List.set_cons_succ])
  refine wpList_val (v := ?_) rfl ?_ ?_
  rotate_left
  · (go_simp; (try (first | with_reducible rfl | (constructor <;> with_reducible rfl))))
  (try simp only [Act.put, List.setIfInBounds_toArray, List.set_cons_zero, List.set_cons_succ])
  refine wpList_nil ?_
  obtain ⟨W6, hW6⟩ : ∃ x, x = (((w5.alloc (.cells Try.zeroCells25 25)).alloc (.cells #[.int .i64 0, .int .i64 0, .int .i64 0, .int .i64 0, .int .i64 0, .int .i64 0, .int .i64 0, .int .i64 0, .int .i64 0, .int .i64 0, .int .i64 0, .int .i64 0, .int .i64 0, .int .i64 0, .int .i64 0, .int .i64 0, .int .i64 0, .int .i64 0, .int .i64 0, .int .i64 0, .int .i64 0, .int .i64 0, .int .i64 0, .int .i64 0] 23)).setRow w5.heap.size (arrv 300 UP)).setRow (w5.heap.size + 1) (arrv 24 UG) := ⟨_, rfl⟩
  rw [← hW6]
  have N0 : Blk W6 w5.heap.size 25 300 UP := by rw [hW6]; exact (RA.setRow UP).setRow_other _ (by omega)
  have N1 : Blk W6 (w5.heap.size + 1) 23 24 UG := by rw [hW6]; exact RB.setRow UG
  have NB : Below w5.heap.size w5 W6 := by rw [hW6]; exact below_row (below_row (((Below.refl _ _).alloc (Nat.le_refl _) _).alloc (by simp) _) (Nat.le_refl _) _) (by omega) _
  have S6 := Lib.hid (S5.out.down NB)
  have k0 := HM5.out.1.below NB
  have k1 := HM5.out.2.below NB
  have k2 := (NB.cell (p := ⟨bc, 0, none⟩) (by simp; omega)).trans c5.out.1
  have k3 := (NB.cell (p := ⟨bc + 1, 0, none⟩) (by simp; omega)).trans c5.out.2
  obtain ⟨bb, hbb⟩ : ∃ x, w5.heap.size = x := ⟨_, rfl⟩
  rw [hbb] at N0 N1 ⊢
  have HN6 := Lib.hid (And.intro k0 (And.intro k1 (And.intro N0 (And.intro N1 (And.intro k2 k3)))))
  clear N0 N1 NB k0 k1 k2 k3 hbb hW6 S5 HM5 c5 hz5 RA RB P4 H4 S4 c4 HM RC hz4 w4 w5
  go_upto_region 9 with fail
  refine wp_region_M (fun w' => Blk w' ba 25 300 UP ∧ Blk w' (ba + 1) 40 24 UG ∧ Blk w' bb 25 300 UP ∧ Blk w' (bb + 1) 23 24 UG ∧ w'.cell? ⟨bc, 0, none⟩ = some (.bool UH) ∧ w'.cell? ⟨bc + 1, 0, none⟩ = some (.bool UH)) 24 (by kernel_rfl) ?_ (fun hHeld => ?_)
  · exact HN6.out
  refine wpAnyM_takeX [2, 3, 4, 5, 6, 7, 8, 9, 10, 11, 12, 13, 14, 15, 16, 17, 18, 19, 20, 21, 22, 23, 24] 0 (v := ?_) rfl (by kernel_rfl) (fun _ _ _ h => h) (Or.inl ⟨by rfl, ?_⟩) (by assumption) ?_
  rotate_left
  · (intro wx hSw; refine Eq.trans (run_load_row 25 (.tmp 13) (by rfl) (ba) (by rfl) _ _ _ _ (hSw.1) Try.underlying25 rfl (icov.trans (by rw [arrv_size]))) ?_; with_reducible rfl)
  (try simp only [Act.put, List.setIfInBounds_toArray, List.set_cons_zero, List.set_cons_succ])
  refine wpAnyM_takeX [2, 3, 4, 5, 6, 7, 8, 9, 10, 11, 12, 13, 14, 15, 16, 17, 18, 19, 20, 21, 22, 23, 24] 1 (v := ?_) rfl (by kernel_rfl) (fun _ _ _ h => h) (Or.inl ⟨by rfl, ?_⟩) (by assumption) ?_
  rotate_left
  · (intro wx hSw; refine Eq.trans (run_load_row 25 (.tmp 16) (by rfl) (bb) (by rfl) _ _ _ _ (hSw.2.2.1) Try.underlying25 rfl (icov.trans (by rw [arrv_size]))) ?_; with_reducible rfl)
  (try simp only [Act.put, List.setIfInBounds_toArray, List.set_cons_zero, List.set_cons_succ])
  refine wpAnyM_takeX [3, 4, 5, 6, 7, 8, 9, 10, 11, 12, 13, 14, 15, 16, 17, 18, 19, 20, 21, 22, 23, 24] 2 (v := ?_) rfl (by kernel_rfl) (fun _ _ _ h => h) (Or.inl ⟨by rfl, ?_⟩) (by assumption) ?_
  rotate_left
  · (intro wx hSw; refine Eq.trans (run_op_neqCov (.tmp 50) (.tmp 51) (by rfl) (by rfl) (by rfl) (covB_self UP)) ?_; with_reducible rfl)
  (try simp only [Act.put, List.setIfInBounds_toArray, List.set_cons_zero, List.set_cons_succ])
  refine wpAnyM_takeX [4, 5, 6, 7, 8, 9, 10, 11, 12, 13, 14, 15, 16, 17, 18, 19, 20, 21, 22, 23, 24] 3 (v := ?_) rfl (by kernel_rfl) (fun _ _ _ h => h) (Or.inl ⟨by rfl, ?_⟩) (by assumption) ?_
  rotate_left
  · (intro wx hSw; (try dsimp only at hSw); go_simp; (try with_reducible rfl))
  (try simp only [Act.put, List.setIfInBounds_toArray, List.set_cons_zero, List.set_cons_succ])
  first | (refine wpAnyM_takeX [6, 7, 8, 9, 10, 11, 12, 13, 14, 15, 16, 17, 18, 19, 20, 21, 22, 23, 24] 4 (v := ?_) rfl (by kernel_rfl) (fun _ _ _ h => h) (Or.inl ⟨by rfl, ?_⟩) (by assumption) ?_; rotate_left; focus ((intro wx hSw; refine Eq.trans (run_load_row 40 (.tmp 14) (by rfl) (ba + 1) (by rfl) _ _ _ _ (hSw.2.1) Try.underlying40 rfl (irow.trans (by rw [arrv_size]))) ?_; with_reducible rfl))) | (refine wpAnyM_takeX [6, 7, 8, 9, 10, 11, 12, 13, 14, 15, 16, 17, 18, 19, 20, 21, 22, 23, 24] 4 rfl (by kernel_rfl) (fun _ _ _ h => h) (Or.inr ⟨by rfl, rfl⟩) (by assumption) ?_)
  (try simp only [Act.put, List.setIfInBounds_toArray, List.set_cons_zero, List.set_cons_succ])
  first | (refine wpAnyM_takeX [6, 7, 8, 9, 10, 11, 12, 13, 14, 15, 16, 17, 18, 19, 20, 21, 22, 23, 24] 5 (v := ?_) rfl (by kernel_rfl) (fun _ _ _ h => h) (Or.inl ⟨by rfl, ?_⟩) (by assumption) ?_; rotate_left; focus ((intro wx hSw; refine Eq.trans (run_load_row 23 (.tmp 17) (by rfl) (bb + 1) (by rfl) _ _ _ _ (hSw.2.2.2.1) Try.underlying23 rfl (icol.trans (by rw [arrv_size]))) ?_; with_reducible rfl))) | (refine wpAnyM_takeX [6, 7, 8, 9, 10, 11, 12, 13, 14, 15, 16, 17, 18, 19, 20, 21, 22, 23, 24] 5 rfl (by kernel_rfl) (fun _ _ _ h => h) (Or.inr ⟨by rfl, rfl⟩) (by assumption) ?_)
  (try simp only [Act.put, List.setIfInBounds_toArray, List.set_cons_zero, List.set_cons_succ])
  first | (refine wpAnyM_takeX [7, 8, 9, 10, 11, 12, 13, 14, 15, 16, 17, 18, 19, 20, 21, 22, 23, 24] 6 (v := ?_) rfl (by kernel_rfl) (fun _ _ _ h => h) (Or.inl ⟨by rfl, ?_⟩) (by assumption) ?_; rotate_left; focus ((intro wx hSw; refine Eq.trans (run_op_neqRow (.tmp 54) (.tmp 55) (by rfl) (by rfl) (by rfl) (eqB_iff.2 fun _ _ => rfl)) ?_; with_reducible rfl))) | (refine wpAnyM_takeX [7, 8, 9, 10, 11, 12, 13, 14, 15, 16, 17, 18, 19, 20, 21, 22, 23, 24] 6 rfl (by kernel_rfl) (fun _ _ _ h => h) (Or.inr ⟨by rfl, rfl⟩) (by assumption) ?_)
  (try simp only [Act.put, List.setIfInBounds_toArray, List.set_cons_zero, List.set_cons_succ])
  refine wpAnyM_takeX [8, 9, 10, 11, 12, 13, 14, 15, 16, 17, 18, 19, 20, 21, 22, 23, 24] 7 (v := ?_) rfl (by kernel_rfl) (fun _ _ _ h => h) (Or.inl ⟨by rfl, ?_⟩) (by assumption) ?_
  rotate_left
  · (intro wx hSw; (try dsimp only at hSw); go_simp; (try with_reducible rfl))
  (try simp only [Act.put, List.setIfInBounds_toArray, List.set_cons_zero, List.set_cons_succ])
  refine wpAnyM_takeX [9, 10, 11, 12, 13, 14, 15, 16, 17, 18, 19, 20, 21, 22, 23, 24] 8 (v := ?_) rfl (by kernel_rfl) (fun _ _ _ h => h) (Or.inl ⟨by rfl, ?_⟩) (by assumption) ?_
  rotate_left
  · (intro wx hSw; (try dsimp only at hSw); go_simp; (try with_reducible rfl))
  (try simp only [Act.put, List.setIfInBounds_toArray, List.set_cons_zero, List.set_cons_succ])
  first | (refine wpAnyM_takeX [11, 12, 13, 14, 15, 16, 17, 18, 19, 20, 21, 22, 23, 24] 9 (v := ?_) rfl (by kernel_rfl) (fun _ _ _ h => h) (Or.inl ⟨by rfl, ?_⟩) (by assumption) ?_; rotate_left; focus ((intro wx hSw; (try dsimp only at hSw); go_simp; (try with_reducible rfl)))) | (refine wpAnyM_takeX [11, 12, 13, 14, 15, 16, 17, 18, 19, 20, 21, 22, 23, 24] 9 rfl (by kernel_rfl) (fun _ _ _ h => h) (Or.inr ⟨by rfl, rfl⟩) (by assumption) ?_)
  (try simp only [Act.put, List.setIfInBounds_toArray, List.set_cons_zero, List.set_cons_succ])
  first | (refine wpAnyM_takeX [11, 12, 13, 14, 15, 16, 17, 18, 19, 20, 21, 22, 23, 24] 10 (v := ?_) rfl (by kernel_rfl) (fun _ _ _ h => h) (Or.inl ⟨by rfl, ?_⟩) (by assumption) ?_; rotate_left; focus ((intro wx hSw; (try dsimp only at hSw); go_simp; (try with_reducible rfl)))) | (refine wpAnyM_takeX [11, 12, 13, 14, 15, 16, 17, 18, 19, 20, 21, 22, 23, 24] 10 rfl (by kernel_rfl) (fun _ _ _ h => h) (Or.inr ⟨by rfl, rfl⟩) (by assumption) ?_)
  (try simp only [Act.put, List.setIfInBounds_toArray, List.set_cons_zero, List.set_cons_succ])
  first | (refine wpAnyM_takeX [12, 13, 14, 15, 16, 17, 18, 19, 20, 21, 22, 23, 24] 11 (v := ?_) rfl (by kernel_rfl) (fun _ _ _ h => h) (Or.inl ⟨by rfl, ?_⟩) (by assumption) ?_; rotate_left; focus ((intro wx hSw; (try dsimp only at hSw); go_simp; (try with_reducible rfl)))) | (refine wpAnyM_takeX [12, 13, 14, 15, 16, 17, 18, 19, 20, 21, 22, 23, 24] 11 rfl (by kernel_rfl) (fun _ _ _ h => h) (Or.inr ⟨by rfl, rfl⟩) (by assumption) ?_)
  (try simp only [Act.put, List.setIfInBounds_toArray, List.set_cons_zero, List.set_cons_succ])
  refine wpAnyM_takeX [13, 14, 15, 16, 17, 18, 19, 20, 21, 22, 23, 24] 12 (v := ?_) rfl (by kernel_rfl) (fun _ _ _ h => h) (Or.inl ⟨by rfl, ?_⟩) (by assumption) ?_
  rotate_left
  · (intro wx hSw; (try dsimp only at hSw); go_simp; (try with_reducible rfl))
  (try simp only [Act.put, List.setIfInBounds_toArray, List.set_cons_zero, List.set_cons_succ])
  refine wpAnyM_take 13 (v := ?_) rfl (by kernel_rfl) (fun _ _ _ h => h) (Or.inl ⟨by rfl, ?_⟩) (by assumption) ?_
  rotate_left
  · (intro wx hSw; (try dsimp only at hSw); go_simp; (try with_reducible rfl))
  (try simp only [Act.put, List.setIfInBounds_toArray, List.set_cons_zero, List.set_cons_succ])
  first | (refine wpAnyM_takeX [15, 16, 17, 23, 24] 14 (v := ?_) rfl (by kernel_rfl) (fun _ _ _ h => h) (Or.inl ⟨by rfl, ?_⟩) (by assumption) ?_; rotate_left; focus ((intro wx hSw; (try dsimp only at hSw); go_simp; (try with_reducible rfl)))) | (refine wpAnyM_takeX [15, 16, 17, 23, 24] 14 rfl (by kernel_rfl) (fun _ _ _ h => h) (Or.inr ⟨by rfl, rfl⟩) (by assumption) ?_)
  (try simp only [Act.put, List.setIfInBounds_toArray, List.set_cons_zero, List.set_cons_succ])
  first | (refine wpAnyM_takeX [16, 17, 23, 24] 15 (v := ?_) rfl (by kernel_rfl) (fun _ _ _ h => h) (Or.inl ⟨by rfl, ?_⟩) (by assumption) ?_; rotate_left; focus ((intro wx hSw; (try dsimp only at hSw); go_simp; (try with_reducible rfl)))) | (refine wpAnyM_takeX [16, 17, 23, 24] 15 rfl (by kernel_rfl) (fun _ _ _ h => h) (Or.inr ⟨by rfl, rfl⟩) (by assumption) ?_)
  (try simp only [Act.put, List.setIfInBounds_toArray, List.set_cons_zero, List.set_cons_succ])
  first | (refine wpAnyM_takeX [17, 23, 24] 16 (v := ?_) rfl (by kernel_rfl) (fun _ _ _ h => h) (Or.inl ⟨by rfl, ?_⟩) (by assumption) ?_; rotate_left; focus ((intro wx hSw; (try dsimp only at hSw); go_simp; (try with_reducible rfl)))) | (refine wpAnyM_takeX [17, 23, 24] 16 rfl (by kernel_rfl) (fun _ _ _ h => h) (Or.inr ⟨by rfl, rfl⟩) (by assumption) ?_)
  (try simp only [Act.put, List.setIfInBounds_toArray, List.set_cons_zero, List.set_cons_succ])
  first | (refine wpAnyM_takeX [23, 24] 17 (v := ?_) rfl (by kernel_rfl) (fun _ _ _ h => h) (Or.inl ⟨by rfl, ?_⟩) (by assumption) ?_; rotate_left; focus ((intro wx hSw; obtain ⟨s1, s2, s3, s4, s5, s6⟩ := hSw; go_simp; (try with_reducible rfl)))) | (refine wpAnyM_takeX [23, 24] 17 rfl (by kernel_rfl) (fun _ _ _ h => h) (Or.inr ⟨by rfl, rfl⟩) (by assumption) ?_)
  (try simp only [Act.put, List.setIfInBounds_toArray, List.set_cons_zero, List.set_cons_succ])
  first | (refine wpAnyM_takeX [19, 20, 21, 22, 23, 24] 18 (v := ?_) rfl (by kernel_rfl) (fun _ _ _ h => h) (Or.inl ⟨by rfl, ?_⟩) (by assumption) ?_; rotate_left; focus ((intro wx hSw; (try dsimp only at hSw); go_simp; (try with_reducible rfl)))) | (refine wpAnyM_takeX [19, 20, 21, 22, 23, 24] 18 rfl (by kernel_rfl) (fun _ _ _ h => h) (Or.inr ⟨by rfl, rfl⟩) (by assumption) ?_)
  (try simp only [Act.put, List.setIfInBounds_toArray, List.set_cons_zero, List.set_cons_succ])
  first | (refine wpAnyM_takeX [20, 21, 22, 23, 24] 19 (v := ?_) rfl (by kernel_rfl) (fun _ _ _ h => h) (Or.inl ⟨by rfl, ?_⟩) (by assumption) ?_; rotate_left; focus ((intro wx hSw; (try dsimp only at hSw); go_simp; (try with_reducible rfl)))) | (refine wpAnyM_takeX [20, 21, 22, 23, 24] 19 rfl (by kernel_rfl) (fun _ _ _ h => h) (Or.inr ⟨by rfl, rfl⟩) (by assumption) ?_)
  (try simp only [Act.put, List.setIfInBounds_toArray, List.set_cons_zero, List.set_cons_succ])
  first | (refine wpAnyM_takeX [21, 22, 23, 24] 20 (v := ?_) rfl (by kernel_rfl) (fun _ _ _ h => h) (Or.inl ⟨by rfl, ?_⟩) (by assumption) ?_; rotate_left; focus ((intro wx hSw; (try dsimp only at hSw); go_simp; (try with_reducible rfl)))) | (refine wpAnyM_takeX [21, 22, 23, 24] 20 rfl (by kernel_rfl) (fun _ _ _ h => h) (Or.inr ⟨by rfl, rfl⟩) (by assumption) ?_)
  (try simp only [Act.put, List.setIfInBounds_toArray, List.set_cons_zero, List.set_cons_succ])
  first | (refine wpAnyM_takeX [22, 23, 24] 21 (v := ?_) rfl (by kernel_rfl) (fun _ _ _ h => h) (Or.inl ⟨by rfl, ?_⟩) (by assumption) ?_; rotate_left; focus ((intro wx hSw; (try dsimp only at hSw); go_simp; (try with_reducible rfl)))) | (refine wpAnyM_takeX [22, 23, 24] 21 rfl (by kernel_rfl) (fun _ _ _ h => h) (Or.inr ⟨by rfl, rfl⟩) (by assumption) ?_)
  (try simp only [Act.put, List.setIfInBounds_toArray, List.set_cons_zero, List.set_cons_succ])
  first | (refine wpAnyM_takeX [23, 24] 22 (v := ?_) rfl (by kernel_rfl) (fun _ _ _ h => h) (Or.inl ⟨by rfl, ?_⟩) (by assumption) ?_; rotate_left; focus ((intro wx hSw; obtain ⟨s1, s2, s3, s4, s5, s6⟩ := hSw; go_simp; (try with_reducible rfl)))) | (refine wpAnyM_takeX [23, 24] 22 rfl (by kernel_rfl) (fun _ _ _ h => h) (Or.inr ⟨by rfl, rfl⟩) (by assumption) ?_)
  (try simp only [Act.put, List.setIfInBounds_toArray, List.set_cons_zero, List.set_cons_succ])
  first | (refine wpAnyM_take 23 (v := ?_) rfl (by kernel_rfl) (fun _ _ _ h => h) (Or.inl ⟨by rfl, ?_⟩) (by assumption) ?_; rotate_left; focus ((intro wx hSw; (try dsimp only at hSw); go_simp; (try with_reducible rfl)))) | (refine wpAnyM_take 23 rfl (by kernel_rfl) (fun _ _ _ h => h) (Or.inr ⟨by rfl, rfl⟩) (by assumption) ?_)
  (try simp only [Act.put, List.setIfInBounds_toArray, List.set_cons_zero, List.set_cons_succ])
  refine wpAnyM_one 24 rfl (by kernel_rfl) (fun K hK => ?_)
  go_simp
  refine hK.out _ _ (.inl (by kernel_rfl)) (fun _ => ?_)
  clear hK K
  (try simp only [Act.put, List.setIfInBounds_toArray, List.set_cons_zero, List.set_cons_succ])
  refine wpAnyM_done (by kernel_rfl) ?_ _
  obtain ⟨X6, hX6⟩ : ∃ x, W6.drew = x := ⟨_, rfl⟩
  have T6 : SyR p H w X6 := by rw [← hX6]; exact S6.out.down (Below.drew (Below.refl _ _))
  have K6 : Blk X6 (ba + 1) 40 24 UG := by rw [← hX6]; exact HN6.out.2.1.drew
  rw [hX6]
  (try clear hHeld)
  clear hX6 S6 HN6
  obtain ⟨W7, hW7⟩ : ∃ x, (X6.alloc (.cells #[.bool false] 31)).alloc (.cells #[.bool false] 35) = x := ⟨_, rfl⟩
  have B67 : Below X6.heap.size X6 W7 := by rw [← hW7]; (repeat (first | with_reducible exact Below.refl _ _ | with_reducible apply Below.drew | (with_reducible refine below_drewN ?_ _) | (with_reducible refine Below.alloc ?_ (by (try simp) <;> omega) _) | (with_reducible refine Below.setCell ?_ (by (try simp) <;> omega) _)))
  have S7 := Lib.hid (T6.down B67)
  have K7 := Lib.hid (K6.below B67)
  have kc : W7.cell? ⟨X6.heap.size, 0, none⟩ = some (.bool false) ∧ W7.frozen? ⟨X6.heap.size, 0, none⟩ = false ∧ W7.cell? ⟨X6.heap.size + 1, 0, none⟩ = some (.bool false) ∧ W7.frozen? ⟨X6.heap.size + 1, 0, none⟩ = false ∧ W7.heap.size = X6.heap.size + 2 := by
    rw [← hW7]; refine ⟨by simp [go_sem], by simp [go_sem], by simp [go_sem], by simp [go_sem], by simp⟩
  have KC := Lib.hid kc
  have hx6 : ba + 1 < X6.heap.size := K6.lt
  have hx7 : w.heap.size + 1 < X6.heap.size := T6.hB.lt
  clear kc B67 T6 K6
  go_upto_region 13 with fail
  obtain ⟨bq, hbq⟩ : ∃ x, X6.heap.size = x := ⟨_, rfl⟩
  rw [hbq] at KC hx6 hx7 ⊢
  clear hW7 hbq X6
  have p0 := S7.out.pB
  have p1 := S7.out.hB
  have IC := Lib.hid (innov_any ⟨bq, 0, none⟩ false p H r W7.drew KC.out.1 KC.out.2.1)
  have RI := Lib.hid (fun (x : World) (a1 : x.cell? ⟨bq + 1, 0, none⟩ = some (.bool false)) (a2 : x.frozen? ⟨bq + 1, 0, none⟩ = false) => rinno_any ⟨bq + 1, 0, none⟩ false p H r x a1 a2)
  obtain ⟨LH, hLH⟩ : ∃ x, lkH p H r = x := ⟨_, rfl⟩
  rw [HK.out.2.2.1, hLH] at IC
  simp only [HK.out.2.2.1, hLH] at RI
  simp only [Bool.false_or] at IC RI
  clear hLH
  have m0 : w.heap.size ≠ (⟨bq, 0, none⟩ : Addr).block := by simp; omega
  have m1 : w.heap.size + 1 ≠ (⟨bq, 0, none⟩ : Addr).block := by simp; omega
  refine wp_region_M (fun w' => Blk w' w.heap.size 25 300 p ∧ Blk w' (w.heap.size + 1) 40 24 H) 9 (by kernel_rfl) ?_ (fun hHeld => ?_)
  · exact ⟨p0, p1⟩
  refine wpAnyM_takeX [4, 9, 10, 11, 12, 13, 14, 15, 16, 17, 18, 19, 20, 21, 22] 0 (v := ?_) rfl (by kernel_rfl) (fun _ _ _ h => h) (Or.inl ⟨by rfl, ?_⟩) (by assumption) ?_
  rotate_left
  · (intro wx hSw; (try dsimp only at hSw); go_simp; (try with_reducible rfl))
  (try simp only [Act.put, List.setIfInBounds_toArray, List.set_cons_zero, List.set_cons_succ])
  refine wpAnyM_takeX [4, 9, 10, 11, 12, 13, 14, 15, 16, 17, 18, 19, 20, 21, 22] 1 (v := ?_) rfl (by kernel_rfl) (fun _ _ _ h => h) (Or.inl ⟨by rfl, ?_⟩) (by assumption) ?_
  rotate_left
  · (intro wz hSw; refine Eq.trans (run_load_row 25 (.tmp 5) (by rfl) (w.heap.size) (by rfl) _ _ _ _ (hSw.1) Try.underlying25 rfl (icov.trans (by rw [arrv_size]))) ?_; with_reducible rfl)
  (try simp only [Act.put, List.setIfInBounds_toArray, List.set_cons_zero, List.set_cons_succ])
  refine wpAnyM_takeX [4, 9, 10, 11, 12, 13, 14, 15, 16, 17, 18, 19, 20, 21, 22] 2 (v := ?_) rfl (by kernel_rfl) (fun _ _ _ h => h) (Or.inl ⟨by rfl, ?_⟩) (by assumption) ?_
  rotate_left
  · (intro wz hSw; refine Eq.trans (run_load_row 40 (.tmp 6) (by rfl) (w.heap.size + 1) (by rfl) _ _ _ _ (hSw.2) Try.underlying40 rfl (irow.trans (by rw [arrv_size]))) ?_; with_reducible rfl)
  (try simp only [Act.put, List.setIfInBounds_toArray, List.set_cons_zero, List.set_cons_succ])
  refine wpAnyM_takeX [4, 9, 10, 11, 12, 13, 14, 15, 16, 17, 18, 19, 20, 21, 22] 3 (v := ?_) rfl (by kernel_rfl) (fun _ _ _ h => h) (Or.inl ⟨by rfl, ?_⟩) (by assumption) ?_
  rotate_left
  · (intro wx hSw; (try dsimp only at hSw); go_simp; (try with_reducible rfl))
  (try simp only [Act.put, List.setIfInBounds_toArray, List.set_cons_zero, List.set_cons_succ])
  refine wpAnyM_take 5 (v := ?_) rfl (by kernel_rfl) (fun _ _ _ h => h) (Or.inl ⟨by rfl, ?_⟩) (by assumption) ?_
  rotate_left
  · (intro wx hSw; (try dsimp only at hSw); go_simp; (try with_reducible rfl))
  (try simp only [Act.put, List.setIfInBounds_toArray, List.set_cons_zero, List.set_cons_succ])
  refine wpAnyM_take 6 (v := ?_) rfl (by kernel_rfl) (fun _ _ _ h => h) (Or.inl ⟨by rfl, ?_⟩) (by assumption) ?_
  rotate_left
  · (intro wz hSw; refine Eq.trans (run_load_row 25 (.tmp 5) (by rfl) (w.heap.size) (by rfl) _ _ _ _ (hSw.1) Try.underlying25 rfl (icov.trans (by rw [arrv_size]))) ?_; with_reducible rfl)
  (try simp only [Act.put, List.setIfInBounds_toArray, List.set_cons_zero, List.set_cons_succ])
  refine wpAnyM_take 7 (v := ?_) rfl (by kernel_rfl) (fun _ _ _ h => h) (Or.inl ⟨by rfl, ?_⟩) (by assumption) ?_
  rotate_left
  · (intro wz hSw; refine Eq.trans (run_load_row 40 (.tmp 6) (by rfl) (w.heap.size + 1) (by rfl) _ _ _ _ (hSw.2) Try.underlying40 rfl (irow.trans (by rw [arrv_size]))) ?_; with_reducible rfl)
  (try simp only [Act.put, List.setIfInBounds_toArray, List.set_cons_zero, List.set_cons_succ])
  refine wpAnyM_take 8 (v := ?_) rfl (by kernel_rfl) (fun _ _ _ h => h) (Or.inl ⟨by rfl, ?_⟩) (by assumption) ?_
  rotate_left
  · (intro wx hSw; (try dsimp only at hSw); go_simp; (try with_reducible rfl))
  (try simp only [Act.put, List.setIfInBounds_toArray, List.set_cons_zero, List.set_cons_succ])
  refine wpAnyM_oneS 4 rfl (by kernel_rfl) (fun K hK => ?_)
  go_simp
  (refine IC.out.mono ?_); rintro e w8 ⟨rfl, hu8⟩; have T8 := (show _ ∧ _ from ⟨p0.drew.upd hu8 m0, p1.drew.upd hu8 m1⟩); have S8 := Lib.hid ((S7.out.down (Below.drew (Below.refl _ _))).upd' (show w.heap.size + 1 < bq by omega) hu8); have K8 := Lib.hid (K7.out.drew.upd hu8 (show ba + 1 ≠ bq by omega)); have c4 := hu8.cellc KC.out.1; have c5 := (hu8.cell (a := ⟨bq + 1, 0, none⟩) (by have := KC.out.2.2.2.2; simp; omega) (by simp)).trans KC.out.2.2.1; have c6 := (hu8.frozen (a := ⟨bq + 1, 0, none⟩) (by have := KC.out.2.2.2.2; simp; omega)).trans KC.out.2.2.2.1; clear hu8
  (try dsimp only)
  (try simp only [Act.put, List.setIfInBounds_toArray, List.set_cons_zero, List.set_cons_succ])
  clear hHeld
  refine hK.out _ _ ?_ (fun hHeld => ?_)
  · exact T8
  clear hK K
  (try simp only [Act.put, List.setIfInBounds_toArray, List.set_cons_zero, List.set_cons_succ])
  refine wpAnyM_one 9 rfl (by kernel_rfl) (fun K hK => ?_)
  go_simp
  (refine (RI.out _ c5 c6).mono ?_); rintro e w9 ⟨rfl, hu9⟩; have d4 := hu9.cellc c5; have d5 := (hu9.cell (a := ⟨bq, 0, none⟩) (by have := World.block_lt_of_cell? _ _ c4; exact this) (by simp)).trans c4; have S9 := Lib.hid (S8.out.upd' (show w.heap.size + 1 < bq + 1 by omega) hu9); have K9 := Lib.hid (K8.out.upd hu9 (show ba + 1 ≠ bq + 1 by omega)); clear hu9
  (try dsimp only)
  (try simp only [Act.put, List.setIfInBounds_toArray, List.set_cons_zero, List.set_cons_succ])
  refine hK.out _ _ (.inl (by kernel_rfl)) (fun _ => ?_)
  clear hK K
  (try simp only [Act.put, List.setIfInBounds_toArray, List.set_cons_zero, List.set_cons_succ])
  refine wpAnyM_switch (fun (w' : World) => w'.cell? ⟨bq, 0, none⟩ = some (.bool LH) ∧ w'.cell? ⟨bq + 1, 0, none⟩ = some (.bool LH)) 22 (by kernel_rfl) ?_ (fun hHeld => ?_)
  · exact ⟨d5, d4⟩
  refine wpAnyM_takeX [11, 12, 13, 14, 15, 16, 17, 18, 19, 20, 21, 22] 10 (v := ?_) rfl (by kernel_rfl) (fun _ _ _ h => h) (Or.inl ⟨by rfl, ?_⟩) (by assumption) ?_
  rotate_left
  · (intro wx hSw; (try dsimp only at hSw); go_simp; (try with_reducible rfl))
  (try simp only [Act.put, List.setIfInBounds_toArray, List.set_cons_zero, List.set_cons_succ])
  refine wpAnyM_take 11 (v := ?_) rfl (by kernel_rfl) (fun _ _ _ h => h) (Or.inl ⟨by rfl, ?_⟩) (by assumption) ?_
  rotate_left
  · (intro wx hSw; (try dsimp only at hSw); go_simp; (try with_reducible rfl))
  (try simp only [Act.put, List.setIfInBounds_toArray, List.set_cons_zero, List.set_cons_succ])
  first | (refine wpAnyM_takeX [13, 14, 15, 21, 22] 12 (v := ?_) rfl (by kernel_rfl) (fun _ _ _ h => h) (Or.inl ⟨by rfl, ?_⟩) (by assumption) ?_; rotate_left; focus ((intro wx hSw; (try dsimp only at hSw); go_simp; (try with_reducible rfl)))) | (refine wpAnyM_takeX [13, 14, 15, 21, 22] 12 rfl (by kernel_rfl) (fun _ _ _ h => h) (Or.inr ⟨by rfl, rfl⟩) (by assumption) ?_)
  (try simp only [Act.put, List.setIfInBounds_toArray, List.set_cons_zero, List.set_cons_succ])
  first | (refine wpAnyM_takeX [14, 15, 21, 22] 13 (v := ?_) rfl (by kernel_rfl) (fun _ _ _ h => h) (Or.inl ⟨by rfl, ?_⟩) (by assumption) ?_; rotate_left; focus ((intro wx hSw; (try dsimp only at hSw); go_simp; (try with_reducible rfl)))) | (refine wpAnyM_takeX [14, 15, 21, 22] 13 rfl (by kernel_rfl) (fun _ _ _ h => h) (Or.inr ⟨by rfl, rfl⟩) (by assumption) ?_)
  (try simp only [Act.put, List.setIfInBounds_toArray, List.set_cons_zero, List.set_cons_succ])
  first | (refine wpAnyM_takeX [15, 21, 22] 14 (v := ?_) rfl (by kernel_rfl) (fun _ _ _ h => h) (Or.inl ⟨by rfl, ?_⟩) (by assumption) ?_; rotate_left; focus ((intro wx hSw; (try dsimp only at hSw); go_simp; (try with_reducible rfl)))) | (refine wpAnyM_takeX [15, 21, 22] 14 rfl (by kernel_rfl) (fun _ _ _ h => h) (Or.inr ⟨by rfl, rfl⟩) (by assumption) ?_)
  (try simp only [Act.put, List.setIfInBounds_toArray, List.set_cons_zero, List.set_cons_succ])
  first | (refine wpAnyM_takeX [21, 22] 15 (v := ?_) rfl (by kernel_rfl) (fun _ _ _ h => h) (Or.inl ⟨by rfl, ?_⟩) (by assumption) ?_; rotate_left; focus ((intro wz hSw; obtain ⟨s1, s2⟩ := hSw; go_simp; (try with_reducible rfl)))) | (refine wpAnyM_takeX [21, 22] 15 rfl (by kernel_rfl) (fun _ _ _ h => h) (Or.inr ⟨by rfl, rfl⟩) (by assumption) ?_)
  (try simp only [Act.put, List.setIfInBounds_toArray, List.set_cons_zero, List.set_cons_succ])
  first | (refine wpAnyM_takeX [17, 18, 19, 20, 21, 22] 16 (v := ?_) rfl (by kernel_rfl) (fun _ _ _ h => h) (Or.inl ⟨by rfl, ?_⟩) (by assumption) ?_; rotate_left; focus ((intro wx hSw; (try dsimp only at hSw); go_simp; (try with_reducible rfl)))) | (refine wpAnyM_takeX [17, 18, 19, 20, 21, 22] 16 rfl (by kernel_rfl) (fun _ _ _ h => h) (Or.inr ⟨by rfl, rfl⟩) (by assumption) ?_)
  (try simp only [Act.put, List.setIfInBounds_toArray, List.set_cons_zero, List.set_cons_succ])
  first | (refine wpAnyM_takeX [18, 19, 20, 21, 22] 17 (v := ?_) rfl (by kernel_rfl) (fun _ _ _ h => h) (Or.inl ⟨by rfl, ?_⟩) (by assumption) ?_; rotate_left; focus ((intro wx hSw; (try dsimp only at hSw); go_simp; (try with_reducible rfl)))) | (refine wpAnyM_takeX [18, 19, 20, 21, 22] 17 rfl (by kernel_rfl) (fun _ _ _ h => h) (Or.inr ⟨by rfl, rfl⟩) (by assumption) ?_)
  (try simp only [Act.put, List.setIfInBounds_toArray, List.set_cons_zero, List.set_cons_succ])
  first | (refine wpAnyM_takeX [19, 20, 21, 22] 18 (v := ?_) rfl (by kernel_rfl) (fun _ _ _ h => h) (Or.inl ⟨by rfl, ?_⟩) (by assumption) ?_; rotate_left; focus ((intro wx hSw; (try dsimp only at hSw); go_simp; (try with_reducible rfl)))) | (refine wpAnyM_takeX [19, 20, 21, 22] 18 rfl (by kernel_rfl) (fun _ _ _ h => h) (Or.inr ⟨by rfl, rfl⟩) (by assumption) ?_)
  (try simp only [Act.put, List.setIfInBounds_toArray, List.set_cons_zero, List.set_cons_succ])
  first | (refine wpAnyM_takeX [20, 21, 22] 19 (v := ?_) rfl (by kernel_rfl) (fun _ _ _ h => h) (Or.inl ⟨by rfl, ?_⟩) (by assumption) ?_; rotate_left; focus ((intro wx hSw; (try dsimp only at hSw); go_simp; (try with_reducible rfl)))) | (refine wpAnyM_takeX [20, 21, 22] 19 rfl (by kernel_rfl) (fun _ _ _ h => h) (Or.inr ⟨by rfl, rfl⟩) (by assumption) ?_)
  (try simp only [Act.put, List.setIfInBounds_toArray, List.set_cons_zero, List.set_cons_succ])
  first | (refine wpAnyM_takeX [21, 22] 20 (v := ?_) rfl (by kernel_rfl) (fun _ _ _ h => h) (Or.inl ⟨by rfl, ?_⟩) (by assumption) ?_; rotate_left; focus ((intro wz hSw; obtain ⟨s1, s2⟩ := hSw; go_simp; (try with_reducible rfl)))) | (refine wpAnyM_takeX [21, 22] 20 rfl (by kernel_rfl) (fun _ _ _ h => h) (Or.inr ⟨by rfl, rfl⟩) (by assumption) ?_)
  (try simp only [Act.put, List.setIfInBounds_toArray, List.set_cons_zero, List.set_cons_succ])
  first | (refine wpAnyM_take 21 (v := ?_) rfl (by kernel_rfl) (fun _ _ _ h => h) (Or.inl ⟨by rfl, ?_⟩) (by assumption) ?_; rotate_left; focus ((intro wx hSw; (try dsimp only at hSw); go_simp; (try with_reducible rfl)))) | (refine wpAnyM_take 21 rfl (by kernel_rfl) (fun _ _ _ h => h) (Or.inr ⟨by rfl, rfl⟩) (by assumption) ?_)
  (try simp only [Act.put, List.setIfInBounds_toArray, List.set_cons_zero, List.set_cons_succ])
  refine wpAnyM_one 22 rfl (by kernel_rfl) (fun K hK => ?_)
  go_simp
  refine hK.out _ _ (.inl (by kernel_rfl)) (fun _ => ?_)
  clear hK K
  (try simp only [Act.put, List.setIfInBounds_toArray, List.set_cons_zero, List.set_cons_succ])
  refine wpAnyM_switch (fun (w' : World) => w'.cell? ⟨bq, 0, none⟩ = some (.bool LH) ∧ w'.cell? ⟨bq + 1, 0, none⟩ = some (.bool LH)) 22 (by kernel_rfl) ?_ (fun hHeld => ?_)
  · exact ⟨d5, d4⟩
  refine wpAnyM_done (by kernel_rfl) ?_ _
  (try clear hHeld)
  clear d4 d5 c4 c5 c6 T8 S8 K8 IC RI p0 p1 KC S7 K7 m0 m1
  obtain ⟨WA, hWA⟩ : ∃ x, (w9.alloc (.cells #[.bool false] 31)).alloc (.cells #[.bool false] 35) = x := ⟨_, rfl⟩
  have B9A : Below w9.heap.size w9 WA := by rw [← hWA]; (repeat (first | with_reducible exact Below.refl _ _ | with_reducible apply Below.drew | (with_reducible refine below_drewN ?_ _) | (with_reducible refine Below.alloc ?_ (by (try simp) <;> omega) _) | (with_reducible refine Below.setCell ?_ (by (try simp) <;> omega) _)))
  have SA := Lib.hid (S9.out.down B9A)
  have KA := Lib.hid (K9.out.below B9A)
  have kc : WA.cell? ⟨w9.heap.size, 0, none⟩ = some (.bool false) ∧ WA.frozen? ⟨w9.heap.size, 0, none⟩ = false ∧ WA.cell? ⟨w9.heap.size + 1, 0, none⟩ = some (.bool false) ∧ WA.frozen? ⟨w9.heap.size + 1, 0, none⟩ = false ∧ WA.heap.size = w9.heap.size + 2 := by
    rw [← hWA]; refine ⟨by simp [go_sem], by simp [go_sem], by simp [go_sem], by simp [go_sem], by simp⟩
  have KC := Lib.hid kc
  have hy6 : ba + 1 < w9.heap.size := K9.out.lt
  have hy7 : w.heap.size + 1 < w9.heap.size := S9.out.hB.lt
  clear kc B9A S9 K9
  go_upto_region 17 with fail
  obtain ⟨be, hbe⟩ : ∃ x, w9.heap.size = x := ⟨_, rfl⟩
  rw [hbe] at KC hy6 hy7 ⊢
  clear hWA hbe
  have kA := KA.out
  have GC := Lib.hid (gain_any ⟨be, 0, none⟩ false UG y WA KC.out.1 KC.out.2.1)
  obtain ⟨GF, hGF⟩ : ∃ x, gnF UG y 24 = x := ⟨_, rfl⟩
  obtain ⟨GB, hGB⟩ : ∃ x, orB (gnB UG y) 24 = x := ⟨_, rfl⟩
  rw [hGF, hGB, Bool.false_or] at GC
  have EG := Lib.hid (And.intro hGF hGB)
  clear hGF hGB
  refine wp_region_lit ?_
  refine wpList_val (v := ?_) rfl ?_ ?_
  rotate_left
  · (go_simp; (try (first | with_reducible rfl | (constructor <;> with_reducible rfl))))
  (try simp only [Act.put, List.setIfInBounds_toArray, List.set_cons_zero, List.set_cons_succ])
  refine wpList_val (v := ?_) rfl ?_ ?_
  rotate_left
  · refine Eq.trans (run_load_row 40 (.tmp 14) (by rfl) (ba + 1) (by rfl) _ _ _ _ (kA) Try.underlying40 rfl (irow.trans (by rw [arrv_size]))) ?_; with_reducible rfl
  (try simp only [Act.put, List.setIfInBounds_toArray, List.set_cons_zero, List.set_cons_succ])
  refine wpList_val (v := ?_) rfl ?_ ?_
  rotate_left
  · (go_simp; (try (first | with_reducible rfl | (constructor <;> with_reducible rfl))))
  (try simp only [Act.put, List.setIfInBounds_toArray, List.set_cons_zero, List.set_cons_succ])
  refine wpList_step (fun K hK => ?_)
  go_simp
  (refine GC.out.mono ?_); rintro e wB ⟨rfl, huB⟩; have SB := Lib.hid (SA.out.upd' (show w.heap.size + 1 < be by omega) huB); have KB := Lib.hid (KA.out.upd huB (show ba + 1 ≠ be by omega)); have cB := Lib.hid (And.intro (huB.cellc KC.out.1) (And.intro ((huB.cell (a := ⟨be + 1, 0, none⟩) (by have := KC.out.2.2.2.2; simp; omega) (by simp)).trans KC.out.2.2.1) ((huB.frozen (a := ⟨be + 1, 0, none⟩) (by have := KC.out.2.2.2.2; simp; omega)).trans KC.out.2.2.2.1))); have hzB : be + 1 < wB.heap.size := (by have := huB.size; have := KC.out.2.2.2.2; omega); have RB : Blk (wB.alloc (.cells #[.int .i64 0, .int .i64 0, .int .i64 0, .int .i64 0, .int .i64 0, .int .i64 0, .int .i64 0, .int .i64 0, .int .i64 0, .int .i64 0, .int .i64 0, .int .i64 0, .int .i64 0, .int .i64 0, .int .i64 0, .int .i64 0, .int .i64 0, .int .i64 0, .int .i64 0, .int .i64 0, .int .i64 0, .int .i64 0, .int .i64 0, .int .i64 0] 40)) wB.heap.size 40 24 (fun _ => 0) := (by rw [zrow]; exact Blk.new _ _ _ _); clear huB
  (try dsimp only)
  (try simp only [Act.put, List.setIfInBounds_toArray, List.set_cons_zero, List.set_cons_succ])
  refine hK _ _ ?_
  clear hK K
  refine wpList_act (v := ?_) (w' := ?_) rfl ?_ ?_
  rotate_left 2
  · (go_simp; (try (first | with_reducible rfl | (constructor <;> with_reducible rfl))))
  (try simp only [Act.put, List.setIfInBounds_toArray, List.set_cons_zero, List.set_cons_succ])
  refine wpList_done (w' := ?_) rfl ?_ ?_
  rotate_left
  · refine Eq.trans (run_store_row 40 (.tmp 19) (.tmp 109) (by rfl) (wB.heap.size) (by rfl) (by rfl) (RB) (irow.trans rfl)) ?_; with_reducible rfl
  (try simp only [Act.put, List.setIfInBounds_toArray, List.set_cons_zero, List.set_cons_succ])
  refine wpList_nil ?_
  obtain ⟨WC, hWC⟩ : ∃ x, x = (wB.alloc (.cells #[.int .i64 0, .int .i64 0, .int .i64 0, .int .i64 0, .int .i64 0, .int .i64 0, .int .i64 0, .int .i64 0, .int .i64 0, .int .i64 0, .int .i64 0, .int .i64 0, .int .i64 0, .int .i64 0, .int .i64 0, .int .i64 0, .int .i64 0, .int .i64 0, .int .i64 0, .int .i64 0, .int .i64 0, .int .i64 0, .int .i64 0, .int .i64 0] 40)).setRow wB.heap.size (arrv 24 GF) := ⟨_, rfl⟩
  rw [← hWC]
  have NC : Blk WC wB.heap.size 40 24 GF := by rw [hWC]; exact RB.setRow GF
  have BC : Below wB.heap.size wB WC := by rw [hWC]; exact below_row ((Below.refl _ _).alloc (Nat.le_refl _) _) (Nat.le_refl _) _
  have c1 := (BC.cell (p := ⟨be, 0, none⟩) (by simp; omega)).trans cB.out.1
  have c2 := (BC.cell (p := ⟨be + 1, 0, none⟩) (by simp; omega)).trans cB.out.2.1
  have c3 := (BC.frozen (p := ⟨be + 1, 0, none⟩) (by simp; omega)).trans cB.out.2.2
  have R0 : Hid (SyR p H w WC ∧ Blk WC wB.heap.size 40 24 GF ∧ Blk WC (ba + 1) 40 24 UG ∧ WC.cell? ⟨be, 0, none⟩ = some (.bool GB) ∧ WC.cell? ⟨be + 1, 0, none⟩ = some (.bool false) ∧ WC.frozen? ⟨be + 1, 0, none⟩ = false) := Lib.hid ⟨SB.out.down BC, NC, KB.out.below BC, c1, c2, c3⟩
  obtain ⟨bg, hbg⟩ : ∃ x, wB.heap.size = x := ⟨_, rfl⟩
  rw [hbg] at R0 hzB ⊢
  clear hWC NC BC c1 c2 c3 hbg RB SB KB cB kA GC SA KA KC
  go_wp2_with fail
  go_loopw [20] (fun v wr => ∃ i : Nat, i ≤ 24 ∧ v = .int .i64 i ∧ Hid (SyR p H w wr ∧ Blk wr bg 40 24 GF ∧ Blk wr (ba + 1) 40 24 UG ∧ wr.cell? ⟨be, 0, none⟩ = some (.bool GB) ∧ wr.cell? ⟨be + 1, 0, none⟩ = some (.bool (orB (gnB UG y) i)) ∧ wr.frozen? ⟨be + 1, 0, none⟩ = false)) (fun v _ => 24 - (intOf v).toNat)
  case atStart => exact ⟨0, by omega, rfl, R0⟩
  case round =>
    obtain ⟨i, hi, rfl, R⟩ := hrel
    clear R0
    by_cases hlt : i < 24
    · have d1 : decide ((i : Int) < 24) = true := by simp; omega
      have k0 : (0 : Int) ≤ (i : Int) := Int.natCast_nonneg _
      have k1 : (i : Int) < 24 := by omega
      have x0 := R.out.2.1.cell (i := i) (by omega)
      have x1 := R.out.2.2.1.cell (i := i) (by omega)
      have hg : GF i = mulV (UG i) y 30 := by rw [← EG.out.1]; unfold gnF; rw [if_pos hlt]
      obtain ⟨KI, hKI⟩ : ∃ x, UG i = x := ⟨_, rfl⟩
      obtain ⟨MV, hMV⟩ : ∃ x, mulV KI y 30 = x := ⟨_, rfl⟩
      have MC := Lib.hid (rm_any ⟨be + 1, 0, none⟩ (orB (gnB UG y) i) KI y wr.drew R.out.2.2.2.2.1 R.out.2.2.2.2.2)
      have hf2 : orB (gnB UG y) (i + 1) = (orB (gnB UG y) i || mulH KI y 30) := by simp only [orB, gnB, hKI]
      rw [hKI, hMV] at hg
      rw [hg] at x0
      rw [hKI] at x1
      rw [hMV] at MC
      have EF := Lib.hid hf2
      have q1 : (MV != MV) = false := by simp
      have m0 : bg ≠ (⟨be + 1, 0, none⟩ : Addr).block := by simp; omega
      have m1 : ba + 1 ≠ (⟨be + 1, 0, none⟩ : Addr).block := by simp; omega
      clear hg hKI hMV hf2
      go_upto_region 21 with fail
      refine wp_region_M (fun w' => w'.cell? ⟨bg, i, none⟩ = some (.int .i64 MV) ∧ w'.cell? ⟨ba + 1, i, none⟩ = some (.int .i64 KI)) 11 (by kernel_rfl) ?_ (fun hHeld => ?_)
      · exact ⟨x0, x1⟩
      refine wpAnyM_takeX [1, 2, 11] 0 (v := ?_) rfl (by kernel_rfl) (fun _ _ _ h => h) (Or.inl ⟨by rfl, ?_⟩) (by assumption) ?_
      rotate_left
      · (intro wx hSw; (try dsimp only at hSw); go_simp; (try with_reducible rfl))
      (try simp only [Act.put, List.setIfInBounds_toArray, List.set_cons_zero, List.set_cons_succ])
      refine wpAnyM_takeX [2, 11] 1 (v := ?_) rfl (by kernel_rfl) (fun _ _ _ h => h) (Or.inl ⟨by rfl, ?_⟩) (by assumption) ?_
      rotate_left
      · (intro wx hSw; (try dsimp only at hSw); go_simp; (try with_reducible rfl))
      (try simp only [Act.put, List.setIfInBounds_toArray, List.set_cons_zero, List.set_cons_succ])
      refine wpAnyM_take 2 (v := ?_) rfl (by kernel_rfl) (fun _ _ _ h => h) (Or.inl ⟨by rfl, ?_⟩) (by assumption) ?_
      rotate_left
      · (intro wx hSw; (try dsimp only at hSw); go_simp; (try with_reducible rfl))
      (try simp only [Act.put, List.setIfInBounds_toArray, List.set_cons_zero, List.set_cons_succ])
      refine wpAnyM_takeX [4, 5, 10, 11] 3 (v := ?_) rfl (by kernel_rfl) (fun _ _ _ h => h) (Or.inl ⟨by rfl, ?_⟩) (by assumption) ?_
      rotate_left
      · (intro wx hSw; (try dsimp only at hSw); go_simp; (try with_reducible rfl))
      (try simp only [Act.put, List.setIfInBounds_toArray, List.set_cons_zero, List.set_cons_succ])
      refine wpAnyM_takeX [5, 10, 11] 4 (v := ?_) rfl (by kernel_rfl) (fun _ _ _ h => h) (Or.inl ⟨by rfl, ?_⟩) (by assumption) ?_
      rotate_left
      · (intro wx hSw; (try dsimp only at hSw); go_simp; (try with_reducible rfl))
      (try simp only [Act.put, List.setIfInBounds_toArray, List.set_cons_zero, List.set_cons_succ])
      refine wpAnyM_takeX [10, 11] 5 (v := ?_) rfl (by kernel_rfl) (fun _ _ _ h => h) (Or.inl ⟨by rfl, ?_⟩) (by assumption) ?_
      rotate_left
      · (intro wx hSw; (try dsimp only at hSw); go_simp; (try with_reducible rfl))
      (try simp only [Act.put, List.setIfInBounds_toArray, List.set_cons_zero, List.set_cons_succ])
      refine wpAnyM_takeX [7, 8, 10, 11] 6 (v := ?_) rfl (by kernel_rfl) (fun _ _ _ h => h) (Or.inl ⟨by rfl, ?_⟩) (by assumption) ?_
      rotate_left
      · (intro wx hSw; (try dsimp only at hSw); go_simp; (try with_reducible rfl))
      (try simp only [Act.put, List.setIfInBounds_toArray, List.set_cons_zero, List.set_cons_succ])
      refine wpAnyM_takeX [8, 10, 11] 7 (v := ?_) rfl (by kernel_rfl) (fun _ _ _ h => h) (Or.inl ⟨by rfl, ?_⟩) (by assumption) ?_
      rotate_left
      · (intro wx hSw; (try dsimp only at hSw); go_simp; (try with_reducible rfl))
      (try simp only [Act.put, List.setIfInBounds_toArray, List.set_cons_zero, List.set_cons_succ])
      refine wpAnyM_takeX [10, 11] 8 (v := ?_) rfl (by kernel_rfl) (fun _ _ _ h => h) (Or.inl ⟨by rfl, ?_⟩) (by assumption) ?_
      rotate_left
      · (intro wx hSw; (try dsimp only at hSw); go_simp; (try with_reducible rfl))
      (try simp only [Act.put, List.setIfInBounds_toArray, List.set_cons_zero, List.set_cons_succ])
      refine wpAnyM_takeX [10, 11] 9 (v := ?_) rfl (by kernel_rfl) (fun _ _ _ h => h) (Or.inl ⟨by rfl, ?_⟩) (by assumption) ?_
      rotate_left
      · (intro wx hSw; (try dsimp only at hSw); go_simp; (try with_reducible rfl))
      (try simp only [Act.put, List.setIfInBounds_toArray, List.set_cons_zero, List.set_cons_succ])
      refine wpAnyM_oneS 10 rfl (by kernel_rfl) (fun K hK => ?_)
      go_simp
      (refine MC.out.mono ?_); rintro e w4 ⟨rfl, hu4⟩; have U4 := Lib.hid hu4; have kp := (show _ ∧ _ from ⟨(hu4.cell (a := ⟨bg, i, none⟩) (World.block_lt_of_cell? _ _ x0) (fun e => by injection e with e1; simp at m0; omega)).trans x0, (hu4.cell (a := ⟨ba + 1, i, none⟩) (World.block_lt_of_cell? _ _ x1) (fun e => by injection e with e1; simp at m1; omega)).trans x1⟩); clear hu4
      (try dsimp only)
      (try simp only [Act.put, List.setIfInBounds_toArray, List.set_cons_zero, List.set_cons_succ])
      clear hHeld
      refine hK.out _ _ ?_ (fun hHeld => ?_)
      · exact kp
      clear hK K
      (try simp only [Act.put, List.setIfInBounds_toArray, List.set_cons_zero, List.set_cons_succ])
      refine wpAnyM_one 11 rfl (by kernel_rfl) (fun K hK => ?_)
      go_simp
      refine hK.out _ _ (.inl (by kernel_rfl)) (fun _ => ?_)
      clear hK K
      (try simp only [Act.put, List.setIfInBounds_toArray, List.set_cons_zero, List.set_cons_succ])
      refine wpAnyM_done (by kernel_rfl) ?_ _
      go_wp2_with fail
      go_roundw
      case rel =>
        refine ⟨i + 1, by omega, by go_num, ?_⟩
        rw [EF.out]
        have u := U4.out
        exact Lib.hid ⟨(R.out.1.down (Below.drew (Below.refl _ _))).upd' (show w.heap.size + 1 < be + 1 by omega) u, R.out.2.1.drew.upd u m0, R.out.2.2.1.drew.upd u m1, (u.cell (a := ⟨be, 0, none⟩) (World.block_lt_of_cell? wr _ R.out.2.2.2.1) (by simp)).trans R.out.2.2.2.1, u.cellc R.out.2.2.2.2.1, (u.frozen (a := ⟨be + 1, 0, none⟩) (World.block_lt_of_cell? wr _ R.out.2.2.2.2.1)).trans R.out.2.2.2.2.2⟩
      case measure => simp [intOf]; omega
    · have hi24 : i = 24 := by omega
      subst hi24
      rw [show ((24 : Nat) : Int) = 24 from rfl]
      have f0 := R.out.2.2.2.1
      have f1 := R.out.2.2.2.2.1
      rw [EG.out.2] at f1
      have SD := Lib.hid R.out.1
      have FD := Lib.hid (And.intro f0 f1)
      have hz8 : be + 1 < wr.heap.size := World.block_lt_of_cell? _ _ f1
      have hz9 : w.heap.size + 1 < wr.heap.size := R.out.1.hB.lt
      clear R f0 f1 hi hlt EG HK
      have RE : Blk (wr.alloc (.cells #[.int .i64 0, .int .i64 0, .int .i64 0, .int .i64 0, .int .i64 0, .int .i64 0, .int .i64 0, .int .i64 0, .int .i64 0, .int .i64 0, .int .i64 0, .int .i64 0, .int .i64 0, .int .i64 0, .int .i64 0, .int .i64 0, .int .i64 0, .int .i64 0, .int .i64 0, .int .i64 0, .int .i64 0, .int .i64 0, .int .i64 0, .int .i64 0] 40)) wr.heap.size 40 24 (fun _ => 0) := by rw [zrow]; exact Blk.new _ _ _ _
      go_upto_region 23 with fail
      refine wp_region_lit ?_
      refine wpList_val (v := ?_) rfl ?_ ?_
      rotate_left
      · (go_simp; rw [zrow])
      (try simp only [Act.put, List.setIfInBounds_toArray, List.set_cons_zero, List.set_cons_succ])
      refine wpList_act (v := ?_) (w' := ?_) rfl ?_ ?_
      rotate_left 2
      · (go_simp; (try (first | with_reducible rfl | (constructor <;> with_reducible rfl))))
      (try simp only [Act.put, List.setIfInBounds_toArray, List.set_cons_zero, List.set_cons_succ])
      refine wpList_done (w' := ?_) rfl ?_ ?_
      rotate_left
      · refine Eq.trans (run_store_row 40 (.tmp 21) (.tmp 126) (by rfl) (wr.heap.size) (by rfl) (by rfl) (RE) (irow.trans rfl)) ?_; with_reducible rfl
      (try simp only [Act.put, List.setIfInBounds_toArray, List.set_cons_zero, List.set_cons_succ])
      refine wpList_nil ?_
      obtain ⟨bs, hbs⟩ : ∃ x, wr.heap.size = x := ⟨_, rfl⟩
      rw [hbs] at RE hz8 hz9 ⊢
      have S1 : Hid (SyR p H w ((wr.alloc (.cells #[.int .i64 0, .int .i64 0, .int .i64 0, .int .i64 0, .int .i64 0, .int .i64 0, .int .i64 0, .int .i64 0, .int .i64 0, .int .i64 0, .int .i64 0, .int .i64 0, .int .i64 0, .int .i64 0, .int .i64 0, .int .i64 0, .int .i64 0, .int .i64 0, .int .i64 0, .int .i64 0, .int .i64 0, .int .i64 0, .int .i64 0, .int .i64 0] 40)).setRow bs (arrv 24 (fun _ => 0))) ∧ Blk ((wr.alloc (.cells #[.int .i64 0, .int .i64 0, .int .i64 0, .int .i64 0, .int .i64 0, .int .i64 0, .int .i64 0, .int .i64 0, .int .i64 0, .int .i64 0, .int .i64 0, .int .i64 0, .int .i64 0, .int .i64 0, .int .i64 0, .int .i64 0, .int .i64 0, .int .i64 0, .int .i64 0, .int .i64 0, .int .i64 0, .int .i64 0, .int .i64 0, .int .i64 0] 40)).setRow bs (arrv 24 (fun _ => 0))) bs 40 24 (pkS L 0) ∧ ((wr.alloc (.cells #[.int .i64 0, .int .i64 0, .int .i64 0, .int .i64 0, .int .i64 0, .int .i64 0, .int .i64 0, .int .i64 0, .int .i64 0, .int .i64 0, .int .i64 0, .int .i64 0, .int .i64 0, .int .i64 0, .int .i64 0, .int .i64 0, .int .i64 0, .int .i64 0, .int .i64 0, .int .i64 0, .int .i64 0, .int .i64 0, .int .i64 0, .int .i64 0] 40)).setRow bs (arrv 24 (fun _ => 0))).cell? ⟨be, 0, none⟩ = some (.bool GB) ∧ ((wr.alloc (.cells #[.int .i64 0, .int .i64 0, .int .i64 0, .int .i64 0, .int .i64 0, .int .i64 0, .int .i64 0, .int .i64 0, .int .i64 0, .int .i64 0, .int .i64 0, .int .i64 0, .int .i64 0, .int .i64 0, .int .i64 0, .int .i64 0, .int .i64 0, .int .i64 0, .int .i64 0, .int .i64 0, .int .i64 0, .int .i64 0, .int .i64 0, .int .i64 0] 40)).setRow bs (arrv 24 (fun _ => 0))).cell? ⟨be + 1, 0, none⟩ = some (.bool GB)) := by
        have b : Below wr.heap.size wr ((wr.alloc (.cells #[.int .i64 0, .int .i64 0, .int .i64 0, .int .i64 0, .int .i64 0, .int .i64 0, .int .i64 0, .int .i64 0, .int .i64 0, .int .i64 0, .int .i64 0, .int .i64 0, .int .i64 0, .int .i64 0, .int .i64 0, .int .i64 0, .int .i64 0, .int .i64 0, .int .i64 0, .int .i64 0, .int .i64 0, .int .i64 0, .int .i64 0, .int .i64 0] 40)).setRow bs (arrv 24 (fun _ => 0))) := by rw [← hbs]; exact below_row ((Below.refl _ _).alloc (Nat.le_refl _) _) (Nat.le_refl _) _
        exact Lib.hid ⟨SD.out.down b, RE.setRow _, (b.cell (p := ⟨be, 0, none⟩) (by simp; omega)).trans FD.out.1, (b.cell (p := ⟨be + 1, 0, none⟩) (by simp; omega)).trans FD.out.2⟩
      generalize (wr.alloc (.cells #[.int .i64 0, .int .i64 0, .int .i64 0, .int .i64 0, .int .i64 0, .int .i64 0, .int .i64 0, .int .i64 0, .int .i64 0, .int .i64 0, .int .i64 0, .int .i64 0, .int .i64 0, .int .i64 0, .int .i64 0, .int .i64 0, .int .i64 0, .int .i64 0, .int .i64 0, .int .i64 0, .int .i64 0, .int .i64 0, .int .i64 0, .int .i64 0] 40)).setRow bs (arrv 24 (fun _ => 0)) = WE at *
      clear RE SD FD hbs
      have hne1 : bs ≠ be := by omega
      have hne2 : bs ≠ be + 1 := by omega
      clear hz8
      have hws : w.heap.size + 1 < bs := by omega
      clear hz9
      go_wp2_with fail
      go_loopw [22] (fun v wr => ∃ k : Nat, k ≤ n ∧ v = .int .i64 k ∧ Hid (SyR p H w wr ∧ Blk wr bs 40 24 (pkS L k) ∧ wr.cell? ⟨be, 0, none⟩ = some (.bool GB) ∧ wr.cell? ⟨be + 1, 0, none⟩ = some (.bool GB))) (fun v _ => n - (intOf v).toNat)
      case atStart => exact ⟨0, by omega, rfl, S1⟩
      case round =>
        obtain ⟨k, hk, rfl, R⟩ := hrel
        clear S1
        have hn50 := HN.out
        by_cases hlt : k < n
        · have d1 : decide ((k : Int) < (n : Int)) = true := by simp; omega
          obtain ⟨pb, po, rfl, hcell⟩ := HL.out k hlt
          have hc1 : wr.cell? ⟨pb, po + k, none⟩ = some (.int .i64 (L k)) := (R.out.1.below.cell (World.block_lt_of_cell? _ _ hcell)).trans hcell
          by_cases h0 : 0 ≤ L k
          · by_cases h1 : L k < 24
            · obtain ⟨x, hxk⟩ : ∃ x, (L k).toNat = x := ⟨_, rfl⟩
              have hLx : L k = (x : Int) := by omega
              have hxl : x < 24 := by omega
              rw [hLx] at hc1
              have b0 := R.out.2.1.cell (i := x) hxl
              have b1 := R.out.2.1.free x
              have HX := Lib.hid hLx
              have HR := Lib.hid R.out
              clear hxk hLx h0 h1 R hcell
              have hx0 : (0 : Int) ≤ (x : Int) := Int.natCast_nonneg _
              have hx1 : (x : Int) < 24 := by omega
              go_wp2_with fail
              go_roundw
              case rel =>
                refine ⟨k + 1, by omega, by go_num, Lib.hid ⟨⟨HR.out.1.below.setCell (by simp; omega) _, HR.out.1.pB.other (by simp; omega) _, HR.out.1.hB.other (by simp; omega) _⟩, ?_, ?_, ?_⟩⟩
                · have := HR.out.2.1.set x 1073741824
                  have e : pkS L (k + 1) = upd (pkS L k) x 1073741824 := by
                    simp only [pkS]
                    rw [if_pos (by rw [HX.out]; omega), HX.out]; rfl
                  rw [e]; exact this
                · refine Eq.trans ?_ HR.out.2.2.1
                  simp [go_sem, hne1, Ne.symm hne1]
                · refine Eq.trans ?_ HR.out.2.2.2
                  simp [go_sem, hne2, Ne.symm hne2]
              case measure => simp [intOf]; omega
            · have d2 : decide (L k < 24) = false := by simp; omega
              have d3 : decide (0 ≤ L k) = true := by simp; omega
              have e : pkS L (k + 1) = pkS L k := by simp only [pkS]; rw [if_neg (by omega)]
              have HE := Lib.hid e
              clear hcell e
              go_wp2_with fail
              go_roundw
              case rel => exact ⟨k + 1, by omega, by go_num, by rw [HE.out]; exact R⟩
              case measure => simp [intOf]; omega
          · have d3 : decide (0 ≤ L k) = false := by simp; omega
            have e : pkS L (k + 1) = pkS L k := by simp only [pkS]; rw [if_neg (by omega)]
            have HE := Lib.hid e
            clear hcell e
            go_wp2_with fail
            go_roundw
            case rel => exact ⟨k + 1, by omega, by go_num, by rw [HE.out]; exact R⟩
            case measure => simp [intOf]; omega
        · obtain rfl : k = n := by omega
          have r0 := R.out.2.1
          have r1 := R.out.2.2.1
          have r2 := R.out.2.2.2
          have SF := Lib.hid R.out.1
          clear R hlt hk hws
          have d1 : decide ((k : Int) < (k : Int)) = false := by simp
          have SL := Lib.hid ((HL.out.below SF.out.below).below ((Below.refl wr.heap.size wr).drew))
          go_upto_region 29 with fail
          refine wp_region_M (SyK bs be L k GB) 18 (by kernel_rfl) ?_ (fun hHeld => ?_)
          · exact ⟨r0, r1, r2⟩
          refine wpAnyM_take 0 (v := ?_) rfl (by kernel_rfl) (fun _ _ _ h => h) (Or.inl ⟨by rfl, ?_⟩) (by assumption) ?_
          rotate_left
          · (intro wx hSw; (try dsimp only at hSw); go_simp; (try with_reducible rfl))
          (try simp only [Act.put, List.setIfInBounds_toArray, List.set_cons_zero, List.set_cons_succ])
          refine wpAnyM_take 1 (v := ?_) rfl (by kernel_rfl) (fun _ _ _ h => h) (Or.inl ⟨by rfl, ?_⟩) (by assumption) ?_
          rotate_left
          · (intro wx hSw; (try dsimp only at hSw); go_simp; (try with_reducible rfl))
          (try simp only [Act.put, List.setIfInBounds_toArray, List.set_cons_zero, List.set_cons_succ])
          refine wpAnyM_take 2 (v := ?_) rfl (by kernel_rfl) (fun _ _ _ h => h) (Or.inl ⟨by rfl, ?_⟩) (by assumption) ?_
          rotate_left
          · (intro wx hSw; (try dsimp only at hSw); go_simp; (try with_reducible rfl))
          (try simp only [Act.put, List.setIfInBounds_toArray, List.set_cons_zero, List.set_cons_succ])
          refine wpAnyM_take 3 (v := ?_) rfl (by kernel_rfl) (fun _ _ _ h => h) (Or.inl ⟨by rfl, ?_⟩) (by assumption) ?_
          rotate_left
          · (intro wz hSw; obtain ⟨s1, s2, s3⟩ := hSw; go_simp; (try with_reducible rfl))
          (try simp only [Act.put, List.setIfInBounds_toArray, List.set_cons_zero, List.set_cons_succ])
          refine wpAnyM_take 4 (v := ?_) rfl (by kernel_rfl) (fun _ _ _ h => h) (Or.inl ⟨by rfl, ?_⟩) (by assumption) ?_
          rotate_left
          · (intro wx hSw; (try dsimp only at hSw); go_simp; (try with_reducible rfl))
          (try simp only [Act.put, List.setIfInBounds_toArray, List.set_cons_zero, List.set_cons_succ])
          refine wpAnyM_take 5 (v := ?_) rfl (by kernel_rfl) (fun _ _ _ h => h) (Or.inl ⟨by rfl, ?_⟩) (by assumption) ?_
          rotate_left
          · (intro wx hSw; (try dsimp only at hSw); go_simp; (try with_reducible rfl))
          (try simp only [Act.put, List.setIfInBounds_toArray, List.set_cons_zero, List.set_cons_succ])
          refine wpAnyM_take 6 (v := ?_) rfl (by kernel_rfl) (fun _ _ _ h => h) (Or.inl ⟨by rfl, ?_⟩) (by assumption) ?_
          rotate_left
          · (intro wx hSw; (try dsimp only at hSw); go_simp; (try with_reducible rfl))
          (try simp only [Act.put, List.setIfInBounds_toArray, List.set_cons_zero, List.set_cons_succ])
          refine wpAnyM_take 7 (v := ?_) rfl (by kernel_rfl) (fun _ _ _ h => h) (Or.inl ⟨by rfl, ?_⟩) (by assumption) ?_
          rotate_left
          · (intro wx hSw; (try dsimp only at hSw); go_simp; (try with_reducible rfl))
          (try simp only [Act.put, List.setIfInBounds_toArray, List.set_cons_zero, List.set_cons_succ])
          refine wpAnyM_take 8 (v := ?_) rfl (by kernel_rfl) (fun _ _ _ h => h) (Or.inl ⟨by rfl, ?_⟩) (by assumption) ?_
          rotate_left
          · (intro wz hSw; obtain ⟨s1, s2, s3⟩ := hSw; go_simp; (try with_reducible rfl))
          (try simp only [Act.put, List.setIfInBounds_toArray, List.set_cons_zero, List.set_cons_succ])
          refine wpAnyM_take 9 (v := ?_) rfl (by kernel_rfl) (fun _ _ _ h => h) (Or.inl ⟨by rfl, ?_⟩) (by assumption) ?_
          rotate_left
          · (intro wx hSw; (try dsimp only at hSw); go_simp; (try with_reducible rfl))
          (try simp only [Act.put, List.setIfInBounds_toArray, List.set_cons_zero, List.set_cons_succ])
          refine wpAnyM_take 10 (v := ?_) rfl (by kernel_rfl) (fun _ _ _ h => h) (Or.inl ⟨by rfl, ?_⟩) (by assumption) ?_
          rotate_left
          · (intro wx hSw; (try dsimp only at hSw); go_simp; (try with_reducible rfl))
          (try simp only [Act.put, List.setIfInBounds_toArray, List.set_cons_zero, List.set_cons_succ])
          first | (refine wpAnyM_take 12 (v := ?_) rfl (by kernel_rfl) (fun _ _ _ h => h) (Or.inl ⟨by rfl, ?_⟩) (by assumption) ?_; rotate_left; focus ((intro wx hSw; (try dsimp only at hSw); go_simp; (try with_reducible rfl)))) | (refine wpAnyM_take 12 rfl (by kernel_rfl) (fun _ _ _ h => h) (Or.inr ⟨by rfl, rfl⟩) (by assumption) ?_)
          (try simp only [Act.put, List.setIfInBounds_toArray, List.set_cons_zero, List.set_cons_succ])
          first | (refine wpAnyM_take 15 (v := ?_) rfl (by kernel_rfl) (fun _ _ _ h => h) (Or.inl ⟨by rfl, ?_⟩) (by assumption) ?_; rotate_left; focus ((intro wz hSw; refine Eq.trans (run_load_row 40 (.tmp 21) (by rfl) (bs) (by rfl) _ _ _ _ (hSw.1) Try.underlying40 rfl (irow.trans (by rw [arrv_size]))) ?_; with_reducible rfl))) | (refine wpAnyM_take 15 rfl (by kernel_rfl) (fun _ _ _ h => h) (Or.inr ⟨by rfl, rfl⟩) (by assumption) ?_)
          (try simp only [Act.put, List.setIfInBounds_toArray, List.set_cons_zero, List.set_cons_succ])
          refine wpAnyM_oneS 11 rfl (by kernel_rfl) (fun K hK => ?_)
          rw [if_pos (by rfl)]; refine wp_bsl0_int (by rfl) ?_; have T1 := SyK.down (wr := wr.drew) ⟨r0, r1, r2⟩ ((Below.refl wr.drew.heap.size wr.drew).alloc (Nat.le_refl _) (.cells #[] 3)); have SL1 := SL.out.below ((Below.refl wr.drew.heap.size wr.drew).alloc (Nat.le_refl _) (.cells #[] 3))
          clear hHeld
          refine hK.out _ _ ?_ (fun hHeld => ?_)
          · exact T1
          clear hK K
          (try simp only [Act.put, List.setIfInBounds_toArray, List.set_cons_zero, List.set_cons_succ])
          refine wpAnyM_oneS 13 rfl (by kernel_rfl) (fun K hK => ?_)
          rw [if_pos (by rfl)]; refine wp_appAll_int (.tmp 161) (.tmp 162) (by rfl) _ q k cp L (by rfl) (by rfl) SL1 (by have := HN.out; omega) ?_; intro q2 cp2 v2 hb2 hs2; have T2 := Lib.hid (T1.down hb2); have SF2 := Lib.hid (Below.after ((SF.out.below.drew).alloc (by have := SF.out.below.size; exact this) (.cells #[] 3)) hb2)
          clear hHeld
          refine hK.out _ _ ?_ (fun hHeld => ?_)
          · exact T2.out
          clear hK K
          (try simp only [Act.put, List.setIfInBounds_toArray, List.set_cons_zero, List.set_cons_succ])
          refine wpAnyM_oneS 14 rfl (by kernel_rfl) (fun K hK => ?_)
          go_simp
          (refine (pick_any _ _ _ L _ hs2 (by have := HN.out; omega)).mono ?_); rintro e v3 ⟨rfl, hb3⟩; have T3 := T2.out.down hb3; have SF3 := Lib.hid (Below.after SF2.out hb3)
          (try dsimp only)
          (try simp only [Act.put, List.setIfInBounds_toArray, List.set_cons_zero, List.set_cons_succ])
          clear hHeld
          refine hK.out _ _ ?_ (fun hHeld => ?_)
          · exact T3
          clear hK K
          (try simp only [Act.put, List.setIfInBounds_toArray, List.set_cons_zero, List.set_cons_succ])
          first | (refine wpAnyM_take 16 (v := ?_) rfl (by kernel_rfl) (fun _ _ _ h => h) (Or.inl ⟨by rfl, ?_⟩) (by assumption) ?_; rotate_left; focus ((intro wz hSw; refine Eq.trans (run_op_eqlRow (.tmp 164) (.tmp 165) (by rfl) (by rfl) (by rfl) (eqB_iff.2 fun _ _ => rfl)) ?_; with_reducible rfl))) | (refine wpAnyM_take 16 rfl (by kernel_rfl) (fun _ _ _ h => h) (Or.inr ⟨by rfl, rfl⟩) (by assumption) ?_)
          (try simp only [Act.put, List.setIfInBounds_toArray, List.set_cons_zero, List.set_cons_succ])
          refine wpAnyM_take 17 (v := ?_) rfl (by kernel_rfl) (fun _ _ _ h => h) (Or.inl ⟨by rfl, ?_⟩) (by assumption) ?_
          rotate_left
          · (intro wx hSw; (try dsimp only at hSw); go_simp; (try with_reducible rfl))
          (try simp only [Act.put, List.setIfInBounds_toArray, List.set_cons_zero, List.set_cons_succ])
          refine wpAnyM_one 18 rfl (by kernel_rfl) (fun K hK => ?_)
          go_simp
          refine hK.out _ _ (.inl (by kernel_rfl)) (fun _ => ?_)
          clear hK K
          (try simp only [Act.put, List.setIfInBounds_toArray, List.set_cons_zero, List.set_cons_succ])
          refine wpAnyM_done (by kernel_rfl) ?_ _
          go_wp2_with fail
          go_ret
          exact ⟨rfl, SF3.out⟩
theorem says11_all (p H : Nat → Int) (r y : Int) (q : Option Addr) (n cp : Nat) (L : Nat → Int) (w : World) (hL : Slc w q n L) :
    Calls Try.prog 4 #[.agg (arrv 300 p), .agg (arrv 24 H), .int .i64 r, .int .i64 y, .slice q n cp] w fun e w' => e = .returned (.bool true) ∧ Below w.heap.size w w' := by
  by_cases hn : n ≤ 50
  · exact says11_walk p H r y q n cp L w hn hL
  · exact says11_long p H r y q n cp w (by omega)
end Go.Proofs.Ytokcdlcmamdloaa
