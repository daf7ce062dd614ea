/- Law 11's awake answers true. -/
import Derived.Test.YtglpbcionohipaaUpd
import Derived.Test.YtglpbcionohipaaEq
import Derived.Test.YtglpbcionohipaaBkO
namespace Go.Proofs.Ytglpbcionohipaa
open Go.RowKit
set_option maxRecDepth 100000
def awR : Nat → Int := fun _ => 17592186044416
def awP : Nat → Int := newF 1 awR
theorem awP_diag : DiagF awP := by
  constructor
  · intro x hx; unfold awP newF; rw [if_pos hx]
  · intro i hi
    unfold awP newF
    rw [if_neg (by omega), show 276 + i - 276 = i by omega]
    by_cases h : i < 1
    · rw [if_pos h]; simp only [awR]; decide
    · rw [if_neg h]; decide
theorem awP_0 : awP 276 = 17592186044416 := by decide
theorem newH_awR : newH 1 awR = false := by decide
theorem pkS_0 : pkS (fun _ => 0) 1 = pkF 0 := by
  funext i; unfold pkS pkF; rw [if_pos (by decide)]; unfold pkS Go.Proofs.Ytglpbcionohipaa.upd; rfl
def awG : Nat → Int := updG awP (pkF 0) 17592186044416
theorem aw11 : updP awP (pkF 0) 17592186044416 276 = 8796093022208 ∧ awG 0 = 536870912 ∧ updS awP (pkF 0) 17592186044416 = 35184372088832 ∧ updH awP (pkF 0) 17592186044416 = false ∧
    updS awP (pkF 0) 5 = 17592186044421 ∧ lkH awP (pkF 0) 5 = false ∧ (∀ i, i < 24 → awG i = if i = 0 then 536870912 else 0) := by
  have e0 : awP (276 + 0) = 17592186044416 := awP_0
  obtain ⟨_, h2, h3, h4, _, h6⟩ := upd_one awP_diag (k := 0) (by omega) (r := 17592186044416) (by omega) (by rw [e0]; omega)
  obtain ⟨_, _, _, g4, g5, _⟩ := upd_one awP_diag (k := 0) (by omega) (r := 5) (by omega) (by rw [e0]; omega)
  rw [e0] at h2 h3 h4 g4
  have hG : ∀ i, i < 24 → awG i = if i = 0 then 536870912 else 0 := fun i hi => by
    unfold awG; rw [h3 i hi]; split
    · decide
    · rfl
  refine ⟨?_, hG 0 (by omega), h4, h6 (by omega), g4, g5, hG⟩
  have := h2 0 (by omega)
  rw [if_pos rfl] at this
  exact this.trans (by decide)
theorem aw_gain : gnF awG 4 24 0 = 2 ∧ orB (gnB awG 4) 24 = false := by
  refine ⟨?_, orB_no fun i hi => ?_⟩
  · unfold gnF; rw [if_pos (by omega), aw11.2.1]; decide
  · unfold gnB; rw [aw11.2.2.2.2.2.2 i hi]; split <;> decide
theorem two_made {w3 w4 : World} (F G : Nat → Int) (e : w4 = ((((w3.alloc (.cells Try.zeroCells29 29)).alloc (.cells #[.int .i64 0, .int .i64 0, .int .i64 0, .int .i64 0, .int .i64 0, .int .i64 0, .int .i64 0, .int .i64 0, .int .i64 0, .int .i64 0, .int .i64 0, .int .i64 0, .int .i64 0, .int .i64 0, .int .i64 0, .int .i64 0, .int .i64 0, .int .i64 0, .int .i64 0, .int .i64 0, .int .i64 0, .int .i64 0, .int .i64 0, .int .i64 0] 31)).setRow w3.heap.size (arrv 300 F)).setRow (w3.heap.size + 1) (arrv 24 G))) :
    Blk w4 w3.heap.size 29 300 F ∧ Blk w4 (w3.heap.size + 1) 31 24 G ∧ Below w3.heap.size w3 w4 := by
  subst e
  rw [zcov, zrow]
  refine ⟨?_, ?_, ?_⟩
  · exact ((((Blk.new w3 _ _ _).alloc _).setRow F).setRow_other _ (by omega))
  · exact (((Blk.new1 w3 _ _ _ _).setRow_other _ (by omega)).setRow G)
  · exact below_row (below_row (((Below.refl _ _).alloc (Nat.le_refl _) _).alloc (by simp) _) (Nat.le_refl _) _) (by omega) _
open Go in
/-- A row's number. -/
theorem run_index_row {o : Oper} {ev : Operand → Value} {w : World} {f : Nat → Int} (x y : Operand) (ho : o.op = .index 31 x y) (hx : ev x = .agg (arrv 24 f)) (k : Nat)
    (hy : ev y = .int .i64 (k : Int)) (hk : k < 24) : (execOp ev o).run Try.prog w = .ok (.value (.int .i64 (f k))) w := by
  have e2 : (arrv 24 f)[k]? = some (.int .i64 (f k)) := arrv_get hk
  unfold execOp
  simp only [ho, hx, hy, Sem.run_bind]
  have := Try.underlying31
  simp [Instr.index, run_underlying this, asIntOf, hk, go_sem, part, e2]
def awL3 : Nat → Int := fun i => if i = 0 then 1 else if i = 1 then 3 else 99
set_option maxHeartbeats 4000000 in
theorem awake_any (w : World) : Calls Try.prog 6 #[] w fun e w' => e = .returned (.bool true) ∧ Below w.heap.size w w' := by
  obtain ⟨n1, n2, n3, n4, n5, n6, n7⟩ := aw11
  go_enter Try.func6, Try.ntmps6
  obtain ⟨W0, hW0⟩ : ∃ x, (w.alloc (.cells #[.bool false] 25)).alloc (.cells #[.int .i64 17592186044416] 2) = x := ⟨_, rfl⟩
  have F0 : Flg W0 w.heap.size false := by rw [← hW0]; exact (Flg.new w false).alloc _
  have B0 : Below w.heap.size w W0 := by rw [← hW0]; exact ((Below.refl _ _).alloc (Nat.le_refl _) _).alloc (by simp) _
  have L0 : Slc W0 (some ⟨w.heap.size + 1, 0, none⟩) 1 awR := by
    rw [← hW0]
    intro i hi
    obtain rfl : i = 0 := by omega
    exact ⟨_, _, rfl, by simp [go_sem, awR]⟩
  have N0 := Lib.hid (new_any _ false _ _ 1 awR W0 F0.cell F0.free L0)
  go_upto_region 3 with (first | (go_at_call 7; (refine N0.out.mono ?_); rintro e w1 ⟨rfl, hu1⟩; (rw [newH_awR] at hu1); replace hu1 : Upd ⟨w.heap.size, 0, none⟩ false W0 w1 := hu1; have F1 := Lib.hid (F0.hit hu1); have B1 := Lib.hid (own_upd B0 (Nat.le_refl _) hu1); clear hu1) | (go_at_call 9; have L1 : Slc (w1.alloc (.cells #[.int .i64 0] 3)) (some ⟨w1.heap.size, 0, none⟩) 1 (fun _ => 0) := (by intro i hi; obtain rfl : i = 0 := (by omega); exact ⟨_, _, rfl, by simp [go_sem]⟩); (refine (pick_any _ 1 _ (fun _ => 0) _ L1 (by omega)).mono ?_); rintro e w2 ⟨rfl, hb2⟩; have F2 := Lib.hid ((F1.out.alloc _).below hb2); have B2 := Lib.hid (Below.after (B1.out.alloc B1.out.size _) hb2); clear hb2 L1) | (go_at_call 8; (rw [pkS_0, show newF 1 awR = awP from rfl]); (refine (update_any _ false awP (pkF 0) 17592186044416 w2 F2.out.cell F2.out.free).mono ?_); rintro e w3 ⟨rfl, hu3⟩; (rw [n3, show updG awP (pkF 0) 17592186044416 = awG from rfl]); (rw [n4] at hu3); replace hu3 : Upd ⟨w.heap.size, 0, none⟩ false w2 w3 := hu3; have F3 := Lib.hid (F2.out.hit hu3); have B3 := Lib.hid (own_upd B2.out (Nat.le_refl _) hu3); have R3 : Blk ((w3.alloc (.cells Try.zeroCells29 29)).alloc (.cells #[.int .i64 0, .int .i64 0, .int .i64 0, .int .i64 0, .int .i64 0, .int .i64 0, .int .i64 0, .int .i64 0, .int .i64 0, .int .i64 0, .int .i64 0, .int .i64 0, .int .i64 0, .int .i64 0, .int .i64 0, .int .i64 0, .int .i64 0, .int .i64 0, .int .i64 0, .int .i64 0, .int .i64 0, .int .i64 0, .int .i64 0, .int .i64 0] 31)) w3.heap.size 29 300 (fun _ => 0) := (by rw [zcov]; exact (Blk.new _ _ _ _).alloc _); have R4 : Blk (((w3.alloc (.cells Try.zeroCells29 29)).alloc (.cells #[.int .i64 0, .int .i64 0, .int .i64 0, .int .i64 0, .int .i64 0, .int .i64 0, .int .i64 0, .int .i64 0, .int .i64 0, .int .i64 0, .int .i64 0, .int .i64 0, .int .i64 0, .int .i64 0, .int .i64 0, .int .i64 0, .int .i64 0, .int .i64 0, .int .i64 0, .int .i64 0, .int .i64 0, .int .i64 0, .int .i64 0, .int .i64 0] 31)).setRow w3.heap.size (arrv 300 (updP awP (pkF 0) 17592186044416))) (w3.heap.size + 1) 31 24 (fun _ => 0) := (by rw [zrow]; exact (Blk.new1 _ _ _ _ _).setRow_other _ (by omega)); clear hu3) | (refine wpList_store_row rfl 29 _ _ rfl w3.heap.size _ rfl rfl 29 _ R3 (icov.trans (by rw [arrv_size])) (by rw [arrv_size, arrv_size]) (oneCell_arrv _ _) ?_) | (refine wpList_store_row rfl 31 _ _ rfl (w3.heap.size + 1) _ rfl rfl 31 _ R4 (irow.trans (by rw [arrv_size])) (by rw [arrv_size, arrv_size]) (oneCell_arrv _ _) ?_))
  obtain ⟨w4, hw4⟩ : ∃ x, x = ((((w3.alloc (.cells Try.zeroCells29 29)).alloc (.cells #[.int .i64 0, .int .i64 0, .int .i64 0, .int .i64 0, .int .i64 0, .int .i64 0, .int .i64 0, .int .i64 0, .int .i64 0, .int .i64 0, .int .i64 0, .int .i64 0, .int .i64 0, .int .i64 0, .int .i64 0, .int .i64 0, .int .i64 0, .int .i64 0, .int .i64 0, .int .i64 0, .int .i64 0, .int .i64 0, .int .i64 0, .int .i64 0] 31)).setRow w3.heap.size (arrv 300 (updP awP (pkF 0) 17592186044416))).setRow (w3.heap.size + 1) (arrv 24 awG)) := ⟨_, rfl⟩
  rw [← hw4]
  obtain ⟨M0, M1, MB⟩ := two_made _ _ hw4
  have F4 := Lib.hid (F3.out.below MB)
  have B4 := Lib.hid (Below.after B3.out MB)
  have c0 := M0.cell (i := 276) (by omega)
  have c1 := M1.cell (i := 0) (by omega)
  rw [n1] at c0
  rw [n2] at c1
  have G4 := Lib.hid M1
  have N4 := Lib.hid n4
  have N5 := Lib.hid n5
  have N6 := Lib.hid n6
  have hz : w.heap.size < w3.heap.size := F3.out.lt
  clear hw4 R3 R4 F0 B0 L0 N0 F1 B1 F2 B2 F3 B3 M0 M1 MB n3 n4 n5 n6 n7 hW0
  refine wp_region_lit ?_
  refine wpList_val (v := ?_) rfl ?_ ?_
  rotate_left
  · (go_simp; (try (first | with_reducible rfl | (constructor <;> with_reducible rfl))))
  (try simp only [Act.put, List.setIfInBounds_toArray, List.set_cons_zero, List.set_cons_succ])
  refine wpList_val (v := ?_) rfl ?_ ?_
  rotate_left
  · (go_simp; (try (first | with_reducible rfl | (constructor <;> with_reducible rfl))))
  (try simp only [Act.put, List.setIfInBounds_toArray, List.set_cons_zero, List.set_cons_succ])
  refine wpList_val (v := ?_) rfl ?_ ?_
  rotate_left
  · (go_simp; (try (first | with_reducible rfl | (constructor <;> with_reducible rfl))))
  (try simp only [Act.put, List.setIfInBounds_toArray, List.set_cons_zero, List.set_cons_succ])
  refine wpList_val (v := ?_) rfl ?_ ?_
  rotate_left
  · (go_simp; (try (first | with_reducible rfl | (constructor <;> with_reducible rfl))))
  (try simp only [Act.put, List.setIfInBounds_toArray, List.set_cons_zero, List.set_cons_succ])
  refine wpList_val (v := ?_) rfl ?_ ?_
  rotate_left
  · (go_simp; (try (first | with_reducible rfl | (constructor <;> with_reducible rfl))))
  (try simp only [Act.put, List.setIfInBounds_toArray, List.set_cons_zero, List.set_cons_succ])
  first | (refine wpList_val (v := ?_) (by rfl) ?_ ?_; rotate_left; focus ((go_simp; (try (first | with_reducible rfl | (constructor <;> with_reducible rfl)))))) | refine wpList_skip (by rfl) ?_
  (try simp only [Act.put, List.setIfInBounds_toArray, List.set_cons_zero, List.set_cons_succ])
  first | (refine wpList_val (v := ?_) (by rfl) ?_ ?_; rotate_left; focus ((go_simp; (try (first | with_reducible rfl | (constructor <;> with_reducible rfl)))))) | refine wpList_skip (by rfl) ?_
  (try simp only [Act.put, List.setIfInBounds_toArray, List.set_cons_zero, List.set_cons_succ])
  first | (refine wpList_val (v := ?_) (by rfl) ?_ ?_; rotate_left; focus ((go_simp; (try (first | with_reducible rfl | (constructor <;> with_reducible rfl)))))) | refine wpList_skip (by rfl) ?_
  (try simp only [Act.put, List.setIfInBounds_toArray, List.set_cons_zero, List.set_cons_succ])
  refine wpList_val (v := ?_) rfl ?_ ?_
  rotate_left
  · (go_simp; (try (first | with_reducible rfl | (constructor <;> with_reducible rfl))))
  (try simp only [Act.put, List.setIfInBounds_toArray, List.set_cons_zero, List.set_cons_succ])
  refine wpList_val (v := ?_) rfl ?_ ?_
  rotate_left
  · (go_simp; (try (first | with_reducible rfl | (constructor <;> with_reducible rfl))))
  (try simp only [Act.put, List.setIfInBounds_toArray, List.set_cons_zero, List.set_cons_succ])
  first | (refine wpList_val (v := ?_) (by rfl) ?_ ?_; rotate_left; focus ((go_simp; (try (first | with_reducible rfl | (constructor <;> with_reducible rfl)))))) | refine wpList_skip (by rfl) ?_
  (try simp only [Act.put, List.setIfInBounds_toArray, List.set_cons_zero, List.set_cons_succ])
  first | (refine wpList_val (v := ?_) (by rfl) ?_ ?_; rotate_left; focus ((go_simp; (try (first | with_reducible rfl | (constructor <;> with_reducible rfl)))))) | refine wpList_skip (by rfl) ?_
  (try simp only [Act.put, List.setIfInBounds_toArray, List.set_cons_zero, List.set_cons_succ])
  refine wpList_val (v := ?_) rfl ?_ ?_
  rotate_left
  · (go_simp; (try (first | with_reducible rfl | (constructor <;> with_reducible rfl))))
  (try simp only [Act.put, List.setIfInBounds_toArray, List.set_cons_zero, List.set_cons_succ])
  refine wpList_val (v := ?_) rfl ?_ ?_
  rotate_left
  · (go_simp; (try (first | with_reducible rfl | (constructor <;> with_reducible rfl))))
  (try simp only [Act.put, List.setIfInBounds_toArray, List.set_cons_zero, List.set_cons_succ])
  first | (refine wpList_val (v := ?_) (by rfl) ?_ ?_; rotate_left; focus ((go_simp; (try (first | with_reducible rfl | (constructor <;> with_reducible rfl)))))) | refine wpList_skip (by rfl) ?_
  (try simp only [Act.put, List.setIfInBounds_toArray, List.set_cons_zero, List.set_cons_succ])
  first | (refine wpList_val (v := ?_) (by rfl) ?_ ?_; rotate_left; focus ((go_simp; (try (first | with_reducible rfl | (constructor <;> with_reducible rfl)))))) | refine wpList_skip (by rfl) ?_
  (try simp only [Act.put, List.setIfInBounds_toArray, List.set_cons_zero, List.set_cons_succ])
  refine wpList_act (v := ?_) (w' := ?_) (by rfl) ?_ ?_
  rotate_left 2
  · (go_simp; (try (first | with_reducible rfl | (constructor <;> with_reducible rfl))))
  (try simp only [Act.put, List.setIfInBounds_toArray, List.set_cons_zero, List.set_cons_succ])
  refine wpList_step (fun K hK => ?_)
  go_simp
  have L5 : Slc (w4.alloc (.cells #[.int .i64 17592186044416] 2)) (some ⟨w4.heap.size, 0, none⟩) 1 awR := (by intro i hi; obtain rfl : i = 0 := (by omega); exact ⟨_, _, rfl, by simp [go_sem, awR]⟩); (refine (new_any _ false _ _ 1 awR _ (F4.out.alloc _).cell (F4.out.alloc _).free L5).mono ?_); rintro e w5 ⟨rfl, hu⟩; (rw [newH_awR] at hu); replace hu : Upd ⟨w.heap.size, 0, none⟩ false _ w5 := hu; have F5 := Lib.hid ((F4.out.alloc _).hit hu); have B5 := Lib.hid (own_upd (B4.out.alloc B4.out.size _) (Nat.le_refl _) hu); have G5 := Lib.hid ((G4.out.alloc _).upd hu (by show w3.heap.size + 1 ≠ w.heap.size; omega)); clear hu L5
  (try dsimp only)
  (try simp only [Act.put, List.setIfInBounds_toArray, List.set_cons_zero, List.set_cons_succ])
  refine hK _ _ ?_
  clear hK K
  refine wpList_act (v := ?_) (w' := ?_) (by rfl) ?_ ?_
  rotate_left 2
  · (go_simp; (try (first | with_reducible rfl | (constructor <;> with_reducible rfl))))
  (try simp only [Act.put, List.setIfInBounds_toArray, List.set_cons_zero, List.set_cons_succ])
  refine wpList_step (fun K hK => ?_)
  go_simp
  have L6 : Slc (w5.alloc (.cells #[.int .i64 0] 3)) (some ⟨w5.heap.size, 0, none⟩) 1 (fun _ => 0) := (by intro i hi; obtain rfl : i = 0 := (by omega); exact ⟨_, _, rfl, by simp [go_sem]⟩); (refine (pick_any _ 1 _ (fun _ => 0) _ L6 (by omega)).mono ?_); rintro e w6 ⟨rfl, hb⟩; have F6 := Lib.hid ((F5.out.alloc _).below hb); have B6 := Lib.hid (Below.after (B5.out.alloc B5.out.size _) hb); have G6 := Lib.hid ((G5.out.alloc _).below hb); clear hb L6
  (try dsimp only)
  (try simp only [Act.put, List.setIfInBounds_toArray, List.set_cons_zero, List.set_cons_succ])
  refine hK _ _ ?_
  clear hK K
  refine wpList_step (fun K hK => ?_)
  go_simp
  (rw [pkS_0, show newF 1 awR = awP from rfl]); (refine (innov_any _ false awP (pkF 0) 5 w6 F6.out.cell F6.out.free).mono ?_); rintro e w7 ⟨rfl, hu⟩; (rw [N5.out]); (rw [N6.out] at hu); replace hu : Upd ⟨w.heap.size, 0, none⟩ false w6 w7 := hu; have F7 := Lib.hid (F6.out.hit hu); have B7 := Lib.hid (own_upd B6.out (Nat.le_refl _) hu); have G7 := Lib.hid (G6.out.upd hu (by show w3.heap.size + 1 ≠ w.heap.size; omega)); clear hu
  (try dsimp only)
  (try simp only [Act.put, List.setIfInBounds_toArray, List.set_cons_zero, List.set_cons_succ])
  refine hK _ _ ?_
  clear hK K
  first | (refine wpList_val (v := ?_) (by rfl) ?_ ?_; rotate_left; focus ((go_simp; (try (first | with_reducible rfl | (constructor <;> with_reducible rfl)))))) | refine wpList_skip (by rfl) ?_
  (try simp only [Act.put, List.setIfInBounds_toArray, List.set_cons_zero, List.set_cons_succ])
  refine wpList_val (v := ?_) rfl ?_ ?_
  rotate_left
  · (go_simp; (try (first | with_reducible rfl | (constructor <;> with_reducible rfl))))
  (try simp only [Act.put, List.setIfInBounds_toArray, List.set_cons_zero, List.set_cons_succ])
  refine wpList_val (v := ?_) rfl ?_ ?_
  rotate_left
  · (go_simp; (try (first | with_reducible rfl | (constructor <;> with_reducible rfl))))
  (try simp only [Act.put, List.setIfInBounds_toArray, List.set_cons_zero, List.set_cons_succ])
  refine wpList_act (v := ?_) (w' := ?_) (by rfl) ?_ ?_
  rotate_left 2
  · (go_simp; (try (first | with_reducible rfl | (constructor <;> with_reducible rfl))))
  (try simp only [Act.put, List.setIfInBounds_toArray, List.set_cons_zero, List.set_cons_succ])
  refine wpList_step (fun K hK => ?_)
  go_simp
  have L8 : Slc (w7.alloc (.cells #[.int .i64 1, .int .i64 3, .int .i64 99] 3)) (some ⟨w7.heap.size, 0, none⟩) 3 awL3 := (by intro i hi; obtain rfl | rfl | rfl : i = 0 ∨ i = 1 ∨ i = 2 := (by omega); exact ⟨_, _, rfl, by simp [go_sem, awL3]⟩; exact ⟨_, _, rfl, by simp [go_sem, awL3]⟩; exact ⟨_, _, rfl, by simp [go_sem, awL3]⟩); (refine (pick_any _ 3 _ awL3 _ L8 (by omega)).mono ?_); rintro e w8 ⟨rfl, hb⟩; have F8 := Lib.hid ((F7.out.alloc _).below hb); have B8 := Lib.hid (Below.after (B7.out.alloc B7.out.size _) hb); have G8 := Lib.hid ((G7.out.alloc _).below hb); clear hb L8
  (try dsimp only)
  (try simp only [Act.put, List.setIfInBounds_toArray, List.set_cons_zero, List.set_cons_succ])
  refine hK _ _ ?_
  clear hK K
  first | (refine wpList_val (v := ?_) (by rfl) ?_ ?_; rotate_left; focus (refine Eq.trans (run_index_row (.tmp 43) (.const (.int .i64 3)) (by rfl) (by rfl) 3 (by rfl) (by omega)) ?_; rw [show pkS awL3 3 3 = 1073741824 from by decide])) | refine wpList_skip (by rfl) ?_
  (try simp only [Act.put, List.setIfInBounds_toArray, List.set_cons_zero, List.set_cons_succ])
  first | (refine wpList_val (v := ?_) (by rfl) ?_ ?_; rotate_left; focus ((go_simp; (try (first | with_reducible rfl | (constructor <;> with_reducible rfl)))))) | refine wpList_skip (by rfl) ?_
  (try simp only [Act.put, List.setIfInBounds_toArray, List.set_cons_zero, List.set_cons_succ])
  refine wpList_val (v := ?_) rfl ?_ ?_
  rotate_left
  · (go_simp; (try (first | with_reducible rfl | (constructor <;> with_reducible rfl))))
  (try simp only [Act.put, List.setIfInBounds_toArray, List.set_cons_zero, List.set_cons_succ])
  refine wpList_val (v := ?_) rfl ?_ ?_
  rotate_left
  · (go_simp; (try (first | with_reducible rfl | (constructor <;> with_reducible rfl))))
  (try simp only [Act.put, List.setIfInBounds_toArray, List.set_cons_zero, List.set_cons_succ])
  first | (refine wpList_val (v := ?_) (by rfl) ?_ ?_; rotate_left; focus ((go_simp; (try (first | with_reducible rfl | (constructor <;> with_reducible rfl)))))) | refine wpList_skip (by rfl) ?_
  (try simp only [Act.put, List.setIfInBounds_toArray, List.set_cons_zero, List.set_cons_succ])
  first | (refine wpList_val (v := ?_) (by rfl) ?_ ?_; rotate_left; focus (refine Eq.trans (run_load_row 31 (.tmp 3) (by rfl) (w3.heap.size + 1) (by rfl) _ _ _ _ (G8.out) Try.underlying31 rfl (irow.trans (by rw [arrv_size]))) ?_; with_reducible rfl)) | refine wpList_skip (by rfl) ?_
  (try simp only [Act.put, List.setIfInBounds_toArray, List.set_cons_zero, List.set_cons_succ])
  refine wpList_step (fun K hK => ?_)
  go_simp
  (refine (gain_any _ false awG 4 w8 F8.out.cell F8.out.free).mono ?_); rintro e w9 ⟨rfl, hu⟩; (rw [aw_gain.2] at hu); replace hu : Upd ⟨w.heap.size, 0, none⟩ false w8 w9 := hu; have F9 := F8.out.hit hu; have B9 := Lib.hid (own_upd B8.out (Nat.le_refl _) hu); have c9 := F9.cell; clear hu F9
  (try dsimp only)
  (try simp only [Act.put, List.setIfInBounds_toArray, List.set_cons_zero, List.set_cons_succ])
  refine hK _ _ ?_
  clear hK K
  first | (refine wpList_val (v := ?_) (by rfl) ?_ ?_; rotate_left; focus (refine Eq.trans (run_index_row (.tmp 50) (.const (.int .i64 0)) (by rfl) (by rfl) 0 (by rfl) (by omega)) ?_; rw [aw_gain.1])) | refine wpList_skip (by rfl) ?_
  (try simp only [Act.put, List.setIfInBounds_toArray, List.set_cons_zero, List.set_cons_succ])
  first | (refine wpList_val (v := ?_) (by rfl) ?_ ?_; rotate_left; focus ((go_simp; (try (first | with_reducible rfl | (constructor <;> with_reducible rfl)))))) | refine wpList_skip (by rfl) ?_
  (try simp only [Act.put, List.setIfInBounds_toArray, List.set_cons_zero, List.set_cons_succ])
  refine wpList_val (v := ?_) rfl ?_ ?_
  rotate_left
  · (go_simp; (try (first | with_reducible rfl | (constructor <;> with_reducible rfl))))
  (try simp only [Act.put, List.setIfInBounds_toArray, List.set_cons_zero, List.set_cons_succ])
  refine wpList_val (v := ?_) rfl ?_ ?_
  rotate_left
  · (go_simp; (try (first | with_reducible rfl | (constructor <;> with_reducible rfl))))
  (try simp only [Act.put, List.setIfInBounds_toArray, List.set_cons_zero, List.set_cons_succ])
  first | (refine wpList_val (v := ?_) (by rfl) ?_ ?_; rotate_left; focus ((go_simp; (try (first | with_reducible rfl | (constructor <;> with_reducible rfl)))))) | refine wpList_skip (by rfl) ?_
  (try simp only [Act.put, List.setIfInBounds_toArray, List.set_cons_zero, List.set_cons_succ])
  first | (refine wpList_val (v := ?_) (by rfl) ?_ ?_; rotate_left; focus ((go_simp; (try (first | with_reducible rfl | (constructor <;> with_reducible rfl)))))) | refine wpList_skip (by rfl) ?_
  (try simp only [Act.put, List.setIfInBounds_toArray, List.set_cons_zero, List.set_cons_succ])
  first | (refine wpList_val (v := ?_) (by rfl) ?_ ?_; rotate_left; focus ((go_simp; (try (first | with_reducible rfl | (constructor <;> with_reducible rfl)))))) | refine wpList_skip (by rfl) ?_
  (try simp only [Act.put, List.setIfInBounds_toArray, List.set_cons_zero, List.set_cons_succ])
  first | (refine wpList_val (v := ?_) (by rfl) ?_ ?_; rotate_left; focus ((go_simp; (try (first | with_reducible rfl | (constructor <;> with_reducible rfl)))))) | refine wpList_skip (by rfl) ?_
  (try simp only [Act.put, List.setIfInBounds_toArray, List.set_cons_zero, List.set_cons_succ])
  first | (refine wpList_val (v := ?_) (by rfl) ?_ ?_; rotate_left; focus ((go_simp; (try (first | with_reducible rfl | (constructor <;> with_reducible rfl)))))) | refine wpList_skip (by rfl) ?_
  (try simp only [Act.put, List.setIfInBounds_toArray, List.set_cons_zero, List.set_cons_succ])
  refine wpList_val (v := ?_) rfl ?_ ?_
  rotate_left
  · (go_simp; (try (first | with_reducible rfl | (constructor <;> with_reducible rfl))))
  (try simp only [Act.put, List.setIfInBounds_toArray, List.set_cons_zero, List.set_cons_succ])
  refine wpList_val (v := ?_) rfl ?_ ?_
  rotate_left
  · (go_simp; (try (first | with_reducible rfl | (constructor <;> with_reducible rfl))))
  (try simp only [Act.put, List.setIfInBounds_toArray, List.set_cons_zero, List.set_cons_succ])
  refine wpList_nil ?_
  go_wp2_with fail
  go_ret
  exact ⟨rfl, B9.out⟩
end Go.Proofs.Ytglpbcionohipaa
