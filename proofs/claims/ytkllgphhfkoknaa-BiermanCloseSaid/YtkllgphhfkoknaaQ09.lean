/- Contracts of the program's functions and plain laws, part 9: they hold for all arguments. -/
import Derived.Test.YtkllgphhfkoknaaQ08
import Derived.Test.YtkllgphhfkoknaaQ04
import Derived.ChangeKeysEq
import Derived.Laws.StructEq
import Derived.Test.YtkllgphhfkoknaaQ05
/- Update's two rows, made and filled; a row's number. -/
namespace Go.Proofs.Ytkllgphhfkoknaa
open Go.RowKit
set_option maxRecDepth 100000
theorem two_made {w3 w4 : World} (F G : Nat → Int) (e : w4 = ((((w3.alloc (.cells Try.zeroCells25 25)).alloc (.cells #[.int .i64 0, .int .i64 0, .int .i64 0, .int .i64 0, .int .i64 0, .int .i64 0, .int .i64 0, .int .i64 0, .int .i64 0, .int .i64 0, .int .i64 0, .int .i64 0, .int .i64 0, .int .i64 0, .int .i64 0, .int .i64 0, .int .i64 0, .int .i64 0, .int .i64 0, .int .i64 0, .int .i64 0, .int .i64 0, .int .i64 0, .int .i64 0] 26)).setRow w3.heap.size (arrv 300 F)).setRow (w3.heap.size + 1) (arrv 24 G))) :
    Blk w4 w3.heap.size 25 300 F ∧ Blk w4 (w3.heap.size + 1) 26 24 G ∧ Below w3.heap.size w3 w4 := by
  subst e
  rw [zcov, zrow]
  refine ⟨?_, ?_, ?_⟩
  · exact ((((Blk.new w3 _ _ _).alloc _).setRow F).setRow_other _ (by omega))
  · exact (((Blk.new1 w3 _ _ _ _).setRow_other _ (by omega)).setRow G)
  · exact below_row (below_row (((Below.refl _ _).alloc (Nat.le_refl _) _).alloc (by simp) _) (Nat.le_refl _) _) (by omega) _
open Go in
/-- A row's number. -/
theorem run_index_row {o : Oper} {ev : Operand → Value} {w : World} {f : Nat → Int} (x y : Operand) (ho : o.op = .index 26 x y) (hx : ev x = .agg (arrv 24 f)) (k : Nat)
    (hy : ev y = .int .i64 (k : Int)) (hk : k < 24) : (execOp ev o).run Try.prog w = .ok (.value (.int .i64 (f k))) w := by
  have e2 : (arrv 24 f)[k]? = some (.int .i64 (f k)) := arrv_get hk
  unfold execOp
  simp only [ho, hx, hy, Sem.run_bind]
  have := Try.underlying26
  simp [Instr.index, run_underlying this, asIntOf, hk, go_sem, part, e2]
end Go.Proofs.Ytkllgphhfkoknaa
/- The equality of two arrays of int64, as numbers. -/
namespace Go.Proofs.Ytkllgphhfkoknaa
open Go
set_option maxRecDepth 100000
end Go.Proofs.Ytkllgphhfkoknaa
/- The equality of two covariances, as numbers. -/
namespace Go.Proofs.Ytkllgphhfkoknaa
open Go
set_option maxRecDepth 100000
end Go.Proofs.Ytkllgphhfkoknaa
/- Law 11's awake answers true. -/
namespace Go.Proofs.Ytkllgphhfkoknaa
open Go.RowKit
set_option maxRecDepth 100000
def awR : Nat → Int := fun _ => 17592186044416
def awP : Nat → Int := newF 1 awR
theorem awP_diag : DiagF awP := by
  constructor
  · intro x hx; unfold awP newF; rw [if_pos hx]
  · intro i hi
    unfold awP newF
    rw [if_neg (by omega), show 276 + i - 276 = i by omega]
    by_cases h : i < 1
    · rw [if_pos h]; simp only [awR]; decide
    · rw [if_neg h]; decide
theorem awP_0 : awP 276 = 17592186044416 := by decide
theorem newH_awR : newH 1 awR = false := by decide
theorem pkS_0 : pkS (fun _ => 0) 1 = pkF 0 := by
  funext i; unfold pkS pkF; rw [if_pos (by decide)]; unfold pkS Go.Proofs.Ytkllgphhfkoknaa.upd; rfl
def awG : Nat → Int := updG awP (pkF 0) 17592186044416
theorem aw11 : updP awP (pkF 0) 17592186044416 276 = 8796093022208 ∧ awG 0 = 536870912 ∧ updS awP (pkF 0) 17592186044416 = 35184372088832 ∧ updH awP (pkF 0) 17592186044416 = false ∧
    updS awP (pkF 0) 5 = 17592186044421 ∧ lkH awP (pkF 0) 5 = false ∧ (∀ i, i < 24 → awG i = if i = 0 then 536870912 else 0) := by
  have e0 : awP (276 + 0) = 17592186044416 := awP_0
  obtain ⟨_, h2, h3, h4, _, h6⟩ := upd_one awP_diag (k := 0) (by omega) (r := 17592186044416) (by omega) (by rw [e0]; omega)
  obtain ⟨_, _, _, g4, g5, _⟩ := upd_one awP_diag (k := 0) (by omega) (r := 5) (by omega) (by rw [e0]; omega)
  rw [e0] at h2 h3 h4 g4
  have hG : ∀ i, i < 24 → awG i = if i = 0 then 536870912 else 0 := fun i hi => by
    unfold awG; rw [h3 i hi]; split
    · decide
    · rfl
  refine ⟨?_, hG 0 (by omega), h4, h6 (by omega), g4, g5, hG⟩
  have := h2 0 (by omega)
  rw [if_pos rfl] at this
  exact this.trans (by decide)
theorem aw_gain : gnF awG 4 24 0 = 2 ∧ orB (gnB awG 4) 24 = false := by
  refine ⟨?_, orB_no fun i hi => ?_⟩
  · unfold gnF; rw [if_pos (by omega), aw11.2.1]; decide
  · unfold gnB; rw [aw11.2.2.2.2.2.2 i hi]; split <;> decide
def awL3 : Nat → Int := fun i => if i = 0 then 1 else if i = 1 then 3 else 99
set_option maxHeartbeats 4000000 in
theorem awake_any (w : World) : Calls Try.prog 4 #[] w fun e w' => e = .returned (.bool true) ∧ Below w.heap.size w w' := by
  obtain ⟨n1, n2, n3, n4, n5, n6, n7⟩ := aw11
  go_enter Try.func4, Try.ntmps4
  obtain ⟨W0, hW0⟩ : ∃ x, (w.alloc (.cells #[.bool false] 30)).alloc (.cells #[.int .i64 17592186044416] 2) = x := ⟨_, rfl⟩
  have F0 : Flg W0 w.heap.size false := by rw [← hW0]; exact (Flg.new w false).alloc _
  have B0 : Below w.heap.size w W0 := by rw [← hW0]; exact ((Below.refl _ _).alloc (Nat.le_refl _) _).alloc (by simp) _
  have L0 : Slc W0 (some ⟨w.heap.size + 1, 0, none⟩) 1 awR := by
    rw [← hW0]
    intro i hi
    obtain rfl : i = 0 := by omega
    exact ⟨_, _, rfl, by simp [go_sem, awR]⟩
  have N0 := Lib.hid (new_any _ false _ _ 1 awR W0 F0.cell F0.free L0)
  go_upto_region 3 with (first | (go_at_call 11; (refine N0.out.mono ?_); rintro e w1 ⟨rfl, hu1⟩; (rw [newH_awR] at hu1); replace hu1 : Upd ⟨w.heap.size, 0, none⟩ false W0 w1 := hu1; have F1 := Lib.hid (F0.hit hu1); have B1 := Lib.hid (own_upd B0 (Nat.le_refl _) hu1); clear hu1) | (go_at_call 12; have L1 : Slc (w1.alloc (.cells #[.int .i64 0] 3)) (some ⟨w1.heap.size, 0, none⟩) 1 (fun _ => 0) := (by intro i hi; obtain rfl : i = 0 := (by omega); exact ⟨_, _, rfl, by simp [go_sem]⟩); (refine (pick_any _ 1 _ (fun _ => 0) _ L1 (by omega)).mono ?_); rintro e w2 ⟨rfl, hb2⟩; have F2 := Lib.hid ((F1.out.alloc _).below hb2); have B2 := Lib.hid (Below.after (B1.out.alloc B1.out.size _) hb2); clear hb2 L1) | (go_at_call 5; (rw [pkS_0, show newF 1 awR = awP from rfl]); (refine (update_any _ false awP (pkF 0) 17592186044416 w2 F2.out.cell F2.out.free).mono ?_); rintro e w3 ⟨rfl, hu3⟩; (rw [n3, show updG awP (pkF 0) 17592186044416 = awG from rfl]); (rw [n4] at hu3); replace hu3 : Upd ⟨w.heap.size, 0, none⟩ false w2 w3 := hu3; have F3 := Lib.hid (F2.out.hit hu3); have B3 := Lib.hid (own_upd B2.out (Nat.le_refl _) hu3); have R3 : Blk ((w3.alloc (.cells Try.zeroCells25 25)).alloc (.cells #[.int .i64 0, .int .i64 0, .int .i64 0, .int .i64 0, .int .i64 0, .int .i64 0, .int .i64 0, .int .i64 0, .int .i64 0, .int .i64 0, .int .i64 0, .int .i64 0, .int .i64 0, .int .i64 0, .int .i64 0, .int .i64 0, .int .i64 0, .int .i64 0, .int .i64 0, .int .i64 0, .int .i64 0, .int .i64 0, .int .i64 0, .int .i64 0] 26)) w3.heap.size 25 300 (fun _ => 0) := (by rw [zcov]; exact (Blk.new _ _ _ _).alloc _); have R4 : Blk (((w3.alloc (.cells Try.zeroCells25 25)).alloc (.cells #[.int .i64 0, .int .i64 0, .int .i64 0, .int .i64 0, .int .i64 0, .int .i64 0, .int .i64 0, .int .i64 0, .int .i64 0, .int .i64 0, .int .i64 0, .int .i64 0, .int .i64 0, .int .i64 0, .int .i64 0, .int .i64 0, .int .i64 0, .int .i64 0, .int .i64 0, .int .i64 0, .int .i64 0, .int .i64 0, .int .i64 0, .int .i64 0] 26)).setRow w3.heap.size (arrv 300 (updP awP (pkF 0) 17592186044416))) (w3.heap.size + 1) 26 24 (fun _ => 0) := (by rw [zrow]; exact (Blk.new1 _ _ _ _ _).setRow_other _ (by omega)); clear hu3) | (refine wpList_store_row rfl 25 _ _ rfl w3.heap.size _ rfl rfl 25 _ R3 (icov.trans (by rw [arrv_size])) (by rw [arrv_size, arrv_size]) (oneCell_arrv _ _) ?_) | (refine wpList_store_row rfl 26 _ _ rfl (w3.heap.size + 1) _ rfl rfl 26 _ R4 (irow.trans (by rw [arrv_size])) (by rw [arrv_size, arrv_size]) (oneCell_arrv _ _) ?_))
  obtain ⟨w4, hw4⟩ : ∃ x, x = ((((w3.alloc (.cells Try.zeroCells25 25)).alloc (.cells #[.int .i64 0, .int .i64 0, .int .i64 0, .int .i64 0, .int .i64 0, .int .i64 0, .int .i64 0, .int .i64 0, .int .i64 0, .int .i64 0, .int .i64 0, .int .i64 0, .int .i64 0, .int .i64 0, .int .i64 0, .int .i64 0, .int .i64 0, .int .i64 0, .int .i64 0, .int .i64 0, .int .i64 0, .int .i64 0, .int .i64 0, .int .i64 0] 26)).setRow w3.heap.size (arrv 300 (updP awP (pkF 0) 17592186044416))).setRow (w3.heap.size + 1) (arrv 24 awG)) := ⟨_, rfl⟩
  rw [← hw4]
  obtain ⟨M0, M1, MB⟩ := two_made _ _ hw4
  have F4 := Lib.hid (F3.out.below MB)
  have B4 := Lib.hid (Below.after B3.out MB)
  have c0 := M0.cell (i := 276) (by omega)
  have c1 := M1.cell (i := 0) (by omega)
  rw [n1] at c0
  rw [n2] at c1
  have G4 := Lib.hid M1
  have N4 := Lib.hid n4
  have N5 := Lib.hid n5
  have N6 := Lib.hid n6
  have hz : w.heap.size < w3.heap.size := F3.out.lt
  clear hw4 R3 R4 F0 B0 L0 N0 F1 B1 F2 B2 F3 B3 M0 M1 MB n3 n4 n5 n6 n7 hW0
  refine wp_region_lit ?_
  refine wpList_val (v := ?_) rfl ?_ ?_
  rotate_left
  · (go_simp; (try (first | with_reducible rfl | (constructor <;> with_reducible rfl))))
  (try simp only [Act.put, nA, nB, nC])
  refine wpList_val (v := ?_) rfl ?_ ?_
  rotate_left
  · (go_simp; (try (first | with_reducible rfl | (constructor <;> with_reducible rfl))))
  (try simp only [Act.put, nA, nB, nC])
  refine wpList_val (v := ?_) rfl ?_ ?_
  rotate_left
  · (go_simp; (try (first | with_reducible rfl | (constructor <;> with_reducible rfl))))
  (try simp only [Act.put, nA, nB, nC])
  refine wpList_val (v := ?_) rfl ?_ ?_
  rotate_left
  · (go_simp; (try (first | with_reducible rfl | (constructor <;> with_reducible rfl))))
  (try simp only [Act.put, nA, nB, nC])
  refine wpList_val (v := ?_) rfl ?_ ?_
  rotate_left
  · (go_simp; (try (first | with_reducible rfl | (constructor <;> with_reducible rfl))))
  (try simp only [Act.put, nA, nB, nC])
  first | (refine wpList_val (v := ?_) (by rfl) ?_ ?_; rotate_left; focus ((go_simp; (try (first | with_reducible rfl | (constructor <;> with_reducible rfl)))))) | refine wpList_skip (by rfl) ?_
  (try simp only [Act.put, nA, nB, nC])
  first | (refine wpList_val (v := ?_) (by rfl) ?_ ?_; rotate_left; focus ((go_simp; (try (first | with_reducible rfl | (constructor <;> with_reducible rfl)))))) | refine wpList_skip (by rfl) ?_
  (try simp only [Act.put, nA, nB, nC])
  first | (refine wpList_val (v := ?_) (by rfl) ?_ ?_; rotate_left; focus ((go_simp; (try (first | with_reducible rfl | (constructor <;> with_reducible rfl)))))) | refine wpList_skip (by rfl) ?_
  (try simp only [Act.put, nA, nB, nC])
  refine wpList_val (v := ?_) rfl ?_ ?_
  rotate_left
  · (go_simp; (try (first | with_reducible rfl | (constructor <;> with_reducible rfl))))
  (try simp only [Act.put, nA, nB, nC])
  refine wpList_val (v := ?_) rfl ?_ ?_
  rotate_left
  · (go_simp; (try (first | with_reducible rfl | (constructor <;> with_reducible rfl))))
  (try simp only [Act.put, nA, nB, nC])
  first | (refine wpList_val (v := ?_) (by rfl) ?_ ?_; rotate_left; focus ((go_simp; (try (first | with_reducible rfl | (constructor <;> with_reducible rfl)))))) | refine wpList_skip (by rfl) ?_
  (try simp only [Act.put, nA, nB, nC])
  first | (refine wpList_val (v := ?_) (by rfl) ?_ ?_; rotate_left; focus ((go_simp; (try (first | with_reducible rfl | (constructor <;> with_reducible rfl)))))) | refine wpList_skip (by rfl) ?_
  (try simp only [Act.put, nA, nB, nC])
  refine wpList_val (v := ?_) rfl ?_ ?_
  rotate_left
  · (go_simp; (try (first | with_reducible rfl | (constructor <;> with_reducible rfl))))
  (try simp only [Act.put, nA, nB, nC])
  refine wpList_val (v := ?_) rfl ?_ ?_
  rotate_left
  · (go_simp; (try (first | with_reducible rfl | (constructor <;> with_reducible rfl))))
  (try simp only [Act.put, nA, nB, nC])
  first | (refine wpList_val (v := ?_) (by rfl) ?_ ?_; rotate_left; focus ((go_simp; (try (first | with_reducible rfl | (constructor <;> with_reducible rfl)))))) | refine wpList_skip (by rfl) ?_
  (try simp only [Act.put, nA, nB, nC])
  first | (refine wpList_val (v := ?_) (by rfl) ?_ ?_; rotate_left; focus ((go_simp; (try (first | with_reducible rfl | (constructor <;> with_reducible rfl)))))) | refine wpList_skip (by rfl) ?_
  (try simp only [Act.put, nA, nB, nC])
  refine wpList_act (v := ?_) (w' := ?_) (by rfl) ?_ ?_
  rotate_left 2
  · (go_simp; (try (first | with_reducible rfl | (constructor <;> with_reducible rfl))))
  (try simp only [Act.put, nA, nB, nC])
  refine wpList_step (fun K hK => ?_)
  go_simp
  have L5 : Slc (w4.alloc (.cells #[.int .i64 17592186044416] 2)) (some ⟨w4.heap.size, 0, none⟩) 1 awR := (by intro i hi; obtain rfl : i = 0 := (by omega); exact ⟨_, _, rfl, by simp [go_sem, awR]⟩); (refine (new_any _ false _ _ 1 awR _ (F4.out.alloc _).cell (F4.out.alloc _).free L5).mono ?_); rintro e w5 ⟨rfl, hu⟩; (rw [newH_awR] at hu); replace hu : Upd ⟨w.heap.size, 0, none⟩ false _ w5 := hu; have F5 := Lib.hid ((F4.out.alloc _).hit hu); have B5 := Lib.hid (own_upd (B4.out.alloc B4.out.size _) (Nat.le_refl _) hu); have G5 := Lib.hid ((G4.out.alloc _).upd hu (by show w3.heap.size + 1 ≠ w.heap.size; omega)); clear hu L5
  (try dsimp only)
  (try simp only [Act.put, nA, nB, nC])
  refine hK _ _ ?_
  clear hK K
  refine wpList_act (v := ?_) (w' := ?_) (by rfl) ?_ ?_
  rotate_left 2
  · (go_simp; (try (first | with_reducible rfl | (constructor <;> with_reducible rfl))))
  (try simp only [Act.put, nA, nB, nC])
  refine wpList_step (fun K hK => ?_)
  go_simp
  have L6 : Slc (w5.alloc (.cells #[.int .i64 0] 3)) (some ⟨w5.heap.size, 0, none⟩) 1 (fun _ => 0) := (by intro i hi; obtain rfl : i = 0 := (by omega); exact ⟨_, _, rfl, by simp [go_sem]⟩); (refine (pick_any _ 1 _ (fun _ => 0) _ L6 (by omega)).mono ?_); rintro e w6 ⟨rfl, hb⟩; have F6 := Lib.hid ((F5.out.alloc _).below hb); have B6 := Lib.hid (Below.after (B5.out.alloc B5.out.size _) hb); have G6 := Lib.hid ((G5.out.alloc _).below hb); clear hb L6
  (try dsimp only)
  (try simp only [Act.put, nA, nB, nC])
  refine hK _ _ ?_
  clear hK K
  refine wpList_step (fun K hK => ?_)
  go_simp
  (rw [pkS_0, show newF 1 awR = awP from rfl]); (refine (innov_any _ false awP (pkF 0) 5 w6 F6.out.cell F6.out.free).mono ?_); rintro e w7 ⟨rfl, hu⟩; (rw [N5.out]); (rw [N6.out] at hu); replace hu : Upd ⟨w.heap.size, 0, none⟩ false w6 w7 := hu; have F7 := Lib.hid (F6.out.hit hu); have B7 := Lib.hid (own_upd B6.out (Nat.le_refl _) hu); have G7 := Lib.hid (G6.out.upd hu (by show w3.heap.size + 1 ≠ w.heap.size; omega)); clear hu
  (try dsimp only)
  (try simp only [Act.put, nA, nB, nC])
  refine hK _ _ ?_
  clear hK K
  first | (refine wpList_val (v := ?_) (by rfl) ?_ ?_; rotate_left; focus ((go_simp; (try (first | with_reducible rfl | (constructor <;> with_reducible rfl)))))) | refine wpList_skip (by rfl) ?_
  (try simp only [Act.put, nA, nB, nC])
  refine wpList_val (v := ?_) rfl ?_ ?_
  rotate_left
  · (go_simp; (try (first | with_reducible rfl | (constructor <;> with_reducible rfl))))
  (try simp only [Act.put, nA, nB, nC])
  refine wpList_val (v := ?_) rfl ?_ ?_
  rotate_left
  · (go_simp; (try (first | with_reducible rfl | (constructor <;> with_reducible rfl))))
  (try simp only [Act.put, nA, nB, nC])
  refine wpList_act (v := ?_) (w' := ?_) (by rfl) ?_ ?_
  rotate_left 2
  · (go_simp; (try (first | with_reducible rfl | (constructor <;> with_reducible rfl))))
  (try simp only [Act.put, nA, nB, nC])
  refine wpList_step (fun K hK => ?_)
  go_simp
  have L8 : Slc (w7.alloc (.cells #[.int .i64 1, .int .i64 3, .int .i64 99] 3)) (some ⟨w7.heap.size, 0, none⟩) 3 awL3 := (by intro i hi; obtain rfl | rfl | rfl : i = 0 ∨ i = 1 ∨ i = 2 := (by omega); exact ⟨_, _, rfl, by simp [go_sem, awL3]⟩; exact ⟨_, _, rfl, by simp [go_sem, awL3]⟩; exact ⟨_, _, rfl, by simp [go_sem, awL3]⟩); (refine (pick_any _ 3 _ awL3 _ L8 (by omega)).mono ?_); rintro e w8 ⟨rfl, hb⟩; have F8 := Lib.hid ((F7.out.alloc _).below hb); have B8 := Lib.hid (Below.after (B7.out.alloc B7.out.size _) hb); have G8 := Lib.hid ((G7.out.alloc _).below hb); clear hb L8
  (try dsimp only)
  (try simp only [Act.put, nA, nB, nC])
  refine hK _ _ ?_
  clear hK K
  first | (refine wpList_val (v := ?_) (by rfl) ?_ ?_; rotate_left; focus (refine Eq.trans (run_index_row (.tmp 43) (.const (.int .i64 3)) (by rfl) (by rfl) 3 (by rfl) (by omega)) ?_; rw [show pkS awL3 3 3 = 1073741824 from by decide])) | refine wpList_skip (by rfl) ?_
  (try simp only [Act.put, nA, nB, nC])
  first | (refine wpList_val (v := ?_) (by rfl) ?_ ?_; rotate_left; focus ((go_simp; (try (first | with_reducible rfl | (constructor <;> with_reducible rfl)))))) | refine wpList_skip (by rfl) ?_
  (try simp only [Act.put, nA, nB, nC])
  refine wpList_val (v := ?_) rfl ?_ ?_
  rotate_left
  · (go_simp; (try (first | with_reducible rfl | (constructor <;> with_reducible rfl))))
  (try simp only [Act.put, nA, nB, nC])
  refine wpList_val (v := ?_) rfl ?_ ?_
  rotate_left
  · (go_simp; (try (first | with_reducible rfl | (constructor <;> with_reducible rfl))))
  (try simp only [Act.put, nA, nB, nC])
  first | (refine wpList_val (v := ?_) (by rfl) ?_ ?_; rotate_left; focus ((go_simp; (try (first | with_reducible rfl | (constructor <;> with_reducible rfl)))))) | refine wpList_skip (by rfl) ?_
  (try simp only [Act.put, nA, nB, nC])
  first | (refine wpList_val (v := ?_) (by rfl) ?_ ?_; rotate_left; focus (refine Eq.trans (run_load_row 26 (.tmp 3) (by rfl) (w3.heap.size + 1) (by rfl) _ _ _ _ (G8.out) Try.underlying26 rfl (irow.trans (by rw [arrv_size]))) ?_; with_reducible rfl)) | refine wpList_skip (by rfl) ?_
  (try simp only [Act.put, nA, nB, nC])
  refine wpList_step (fun K hK => ?_)
  go_simp
  (refine (gain_any _ false awG 4 w8 F8.out.cell F8.out.free).mono ?_); rintro e w9 ⟨rfl, hu⟩; (rw [aw_gain.2] at hu); replace hu : Upd ⟨w.heap.size, 0, none⟩ false w8 w9 := hu; have F9 := F8.out.hit hu; have B9 := Lib.hid (own_upd B8.out (Nat.le_refl _) hu); have c9 := F9.cell; clear hu F9
  (try dsimp only)
  (try simp only [Act.put, nA, nB, nC])
  refine hK _ _ ?_
  clear hK K
  first | (refine wpList_val (v := ?_) (by rfl) ?_ ?_; rotate_left; focus (refine Eq.trans (run_index_row (.tmp 50) (.const (.int .i64 0)) (by rfl) (by rfl) 0 (by rfl) (by omega)) ?_; rw [aw_gain.1])) | refine wpList_skip (by rfl) ?_
  (try simp only [Act.put, nA, nB, nC])
  first | (refine wpList_val (v := ?_) (by rfl) ?_ ?_; rotate_left; focus ((go_simp; (try (first | with_reducible rfl | (constructor <;> with_reducible rfl)))))) | refine wpList_skip (by rfl) ?_
  (try simp only [Act.put, nA, nB, nC])
  refine wpList_val (v := ?_) rfl ?_ ?_
  rotate_left
  · (go_simp; (try (first | with_reducible rfl | (constructor <;> with_reducible rfl))))
  (try simp only [Act.put, nA, nB, nC])
  refine wpList_val (v := ?_) rfl ?_ ?_
  rotate_left
  · (go_simp; (try (first | with_reducible rfl | (constructor <;> with_reducible rfl))))
  (try simp only [Act.put, nA, nB, nC])
  first | (refine wpList_val (v := ?_) (by rfl) ?_ ?_; rotate_left; focus ((go_simp; (try (first | with_reducible rfl | (constructor <;> with_reducible rfl)))))) | refine wpList_skip (by rfl) ?_
  (try simp only [Act.put, nA, nB, nC])
  first | (refine wpList_val (v := ?_) (by rfl) ?_ ?_; rotate_left; focus ((go_simp; (try (first | with_reducible rfl | (constructor <;> with_reducible rfl)))))) | refine wpList_skip (by rfl) ?_
  (try simp only [Act.put, nA, nB, nC])
  first | (refine wpList_val (v := ?_) (by rfl) ?_ ?_; rotate_left; focus ((go_simp; (try (first | with_reducible rfl | (constructor <;> with_reducible rfl)))))) | refine wpList_skip (by rfl) ?_
  (try simp only [Act.put, nA, nB, nC])
  first | (refine wpList_val (v := ?_) (by rfl) ?_ ?_; rotate_left; focus ((go_simp; (try (first | with_reducible rfl | (constructor <;> with_reducible rfl)))))) | refine wpList_skip (by rfl) ?_
  (try simp only [Act.put, nA, nB, nC])
  first | (refine wpList_val (v := ?_) (by rfl) ?_ ?_; rotate_left; focus ((go_simp; (try (first | with_reducible rfl | (constructor <;> with_reducible rfl)))))) | refine wpList_skip (by rfl) ?_
  (try simp only [Act.put, nA, nB, nC])
  refine wpList_val (v := ?_) rfl ?_ ?_
  rotate_left
  · (go_simp; (try (first | with_reducible rfl | (constructor <;> with_reducible rfl))))
  (try simp only [Act.put, nA, nB, nC])
  refine wpList_val (v := ?_) rfl ?_ ?_
  rotate_left
  · (go_simp; (try (first | with_reducible rfl | (constructor <;> with_reducible rfl))))
  (try simp only [Act.put, nA, nB, nC])
  refine wpList_nil ?_
  go_wp2_with fail
  go_ret
  exact ⟨rfl, B9.out⟩
end Go.Proofs.Ytkllgphhfkoknaa
/- Sums; one elimination of two rows by a third, with its roundings. No program. -/
namespace Go.Proofs.Ytkllgphhfkoknaa
def sg (f : Nat → Int) : Nat → Int | 0 => 0 | n + 1 => sg f n + f n
theorem sg_congr {f g : Nat → Int} : ∀ {n : Nat}, (∀ k, k < n → f k = g k) → sg f n = sg g n
  | 0, _ => rfl
  | n + 1, h => by unfold sg; rw [sg_congr (n := n) fun k hk => h k (by omega), h n (by omega)]
theorem sg_le {f g : Nat → Int} : ∀ {n : Nat}, (∀ k, k < n → f k ≤ g k) → sg f n ≤ sg g n
  | 0, _ => Int.le_refl _
  | n + 1, h => by
    have h1 := sg_le (n := n) fun k hk => h k (by omega)
    have h2 := h n (by omega)
    unfold sg; omega
theorem sg_abs {f g : Nat → Int} : ∀ {n : Nat}, (∀ k, k < n → -(g k) ≤ f k ∧ f k ≤ g k) → -(sg g n) ≤ sg f n ∧ sg f n ≤ sg g n
  | 0, _ => by unfold sg; omega
  | n + 1, h => by
    have h1 := sg_abs (n := n) fun k hk => h k (by omega)
    have h2 := h n (by omega)
    unfold sg; omega
theorem sg_nonneg {f : Nat → Int} : ∀ {n : Nat}, (∀ k, k < n → 0 ≤ f k) → 0 ≤ sg f n
  | 0, _ => Int.le_refl _
  | n + 1, h => by
    have h1 := sg_nonneg (n := n) fun k hk => h k (by omega)
    have h2 := h n (by omega)
    unfold sg; omega
theorem sg_const (c : Int) : ∀ n : Nat, sg (fun _ => c) n = n * c
  | 0 => by simp [sg]
  | n + 1 => by unfold sg; rw [sg_const c n, Int.natCast_add, Int.add_mul]; simp
theorem sg_mul (c : Int) (f : Nat → Int) : ∀ n : Nat, sg (fun k => c * f k) n = c * sg f n
  | 0 => by simp [sg]
  | n + 1 => by unfold sg; rw [sg_mul c f n, Int.mul_add]
theorem sg_add (f g : Nat → Int) : ∀ n : Nat, sg (fun k => f k + g k) n = sg f n + sg g n
  | 0 => rfl
  | n + 1 => by unfold sg; rw [sg_add f g n]; omega
/-- One number among nonnegative ones. -/
theorem sg_one {f : Nat → Int} {a : Nat} : ∀ {n : Nat}, a < n → (∀ k, k < n → 0 ≤ f k) → f a ≤ sg f n
  | 0, h, _ => absurd h (Nat.not_lt_zero _)
  | n + 1, h, h0 => by
    unfold sg
    have h2 := h0 n (by omega)
    by_cases e : a = n
    · subst e
      have := sg_nonneg (n := a) fun k hk => h0 k (by omega)
      omega
    · have := sg_one (a := a) (n := n) (by omega) fun k hk => h0 k (by omega)
      omega
def ab (x : Int) : Int := (x.natAbs : Int)
theorem ab_bd (x : Int) : 0 ≤ ab x ∧ -(ab x) ≤ x ∧ x ≤ ab x := by unfold ab; omega
theorem ab_mul (x y : Int) : ab (x * y) = ab x * ab y := by unfold ab; rw [Int.natAbs_mul, Int.natCast_mul]
theorem ab_le {x k : Int} (h : ab x ≤ k) : -k ≤ x ∧ x ≤ k := by unfold ab at h; omega
theorem le_ab {x k : Int} (h : -k ≤ x ∧ x ≤ k) : ab x ≤ k := by unfold ab; omega
theorem ab_add (x y : Int) : ab (x + y) ≤ ab x + ab y := by unfold ab; omega
theorem ab_neg (x : Int) : ab (-x) = ab x := by unfold ab; omega
theorem sg_ab (f : Nat → Int) : ∀ n : Nat, ab (sg f n) ≤ sg (fun k => ab (f k)) n
  | 0 => by simp [sg, ab]
  | n + 1 => by
    have h := sg_ab f n
    have := ab_add (sg f n) (f n)
    unfold sg; omega
/-- The sum of products of two rows, weighted. -/
def gr (a b e : Nat → Int) : Int := sg (fun k => a k * b k * e k) 48
theorem el_id (a b v e r s ρ σ O u t : Int) (h1 : O * r = u * v + ρ) (h2 : O * s = t * v + σ) :
    O * O * ((a - r) * (b - s) * e) = O * O * (a * b * e) - O * u * (b * v * e) - O * t * (a * v * e) + u * t * (v * v * e) - O * (ρ * (b - s) * e) - O * (σ * (a - r) * e) - ρ * σ * e := by
  obtain rfl : ρ = O * r - u * v := by omega
  obtain rfl : σ = O * s - t * v := by omega
  grind
theorem el_sum (a b v e r s ρ σ : Nat → Int) (O u t : Int) : ∀ n : Nat, (∀ k, k < n → O * r k = u * v k + ρ k) → (∀ k, k < n → O * s k = t * v k + σ k) →
    O * O * sg (fun k => (a k - r k) * (b k - s k) * e k) n = O * O * sg (fun k => a k * b k * e k) n - O * u * sg (fun k => b k * v k * e k) n - O * t * sg (fun k => a k * v k * e k) n + u * t * sg (fun k => v k * v k * e k) n
      - O * sg (fun k => ρ k * (b k - s k) * e k) n - O * sg (fun k => σ k * (a k - r k) * e k) n - sg (fun k => ρ k * σ k * e k) n
  | 0, _, _ => by simp [sg]
  | n + 1, h1, h2 => by
    have ih := el_sum a b v e r s ρ σ O u t n (fun k hk => h1 k (by omega)) (fun k hk => h2 k (by omega))
    have hn := el_id (a n) (b n) (v n) (e n) (r n) (s n) (ρ n) (σ n) O u t (h1 n (by omega)) (h2 n (by omega))
    simp only [sg, Int.mul_add]
    omega
/-- What is left of two rows, told by what they were and the multiples that were taken away. -/
theorem el_core {a b v e r s ρ σ : Nat → Int} {O u t d εa εb εv : Int} (hr : ∀ k, k < 48 → O * r k = u * v k + ρ k) (hs : ∀ k, k < 48 → O * s k = t * v k + σ k)
    (hA : gr a v e = O * d * u - εa) (hB : gr b v e = O * d * t - εb) (hV : gr v v e = O * O * d - εv) :
    O * O * gr (fun k => a k - r k) (fun k => b k - s k) e = O * O * gr a b e - O * O * (u * t * d) + O * (u * εb) + O * (t * εa) - u * t * εv
      - O * sg (fun k => ρ k * (b k - s k) * e k) 48 - O * sg (fun k => σ k * (a k - r k) * e k) 48 - sg (fun k => ρ k * σ k * e k) 48 := by
  have h := el_sum a b v e r s ρ σ O u t 48 hr hs
  unfold gr at *
  rw [hA, hB, hV] at h
  generalize sg (fun k => (a k - r k) * (b k - s k) * e k) 48 = X at *
  generalize sg (fun k => a k * b k * e k) 48 = Y at *
  generalize sg (fun k => ρ k * (b k - s k) * e k) 48 = Z1 at *
  generalize sg (fun k => σ k * (a k - r k) * e k) 48 = Z2 at *
  generalize sg (fun k => ρ k * σ k * e k) 48 = Z3 at *
  grind
/-- A sum of products with numbers up to m. -/
theorem sg_bd {x y : Nat → Int} {m : Int} {n : Nat} (h : ∀ k, k < n → ab (x k) ≤ m) : ab (sg (fun k => x k * y k) n) ≤ m * sg (fun k => ab (y k)) n := by
  rw [← sg_mul]
  refine Int.le_trans (sg_ab _ _) (sg_le fun k hk => ?_)
  rw [ab_mul]
  exact Int.mul_le_mul_of_nonneg_right (h k hk) (ab_bd _).1
theorem sq_nn (x : Int) : 0 ≤ x * x := by
  by_cases h : 0 ≤ x
  · exact Int.mul_nonneg h h
  · have := Int.mul_nonneg (a := -x) (b := -x) (by omega) (by omega)
    rwa [Int.neg_mul_neg] at this
/-- Products of two rows, by their squares: 2 t x y is at most x x + t t y y. -/
theorem gr_two (a b e : Nat → Int) (he : ∀ k, k < 48 → 0 ≤ e k) (t : Int) : ab (2 * t * gr a b e) ≤ gr a a e + t * t * gr b b e := by
  have h1 : ∀ k, k < 48 → -(a k * a k * e k + t * t * (b k * b k * e k)) ≤ 2 * t * (a k * b k * e k) ∧ 2 * t * (a k * b k * e k) ≤ a k * a k * e k + t * t * (b k * b k * e k) := by
    intro k hk
    have p := Int.mul_nonneg (sq_nn (a k - t * b k)) (he k hk)
    have q := Int.mul_nonneg (sq_nn (a k + t * b k)) (he k hk)
    grind
  have h2 := sg_abs h1
  rw [sg_mul, sg_add, sg_mul] at h2
  exact le_ab h2
theorem cl_rshmul (e : Int) : rsh (1073741824 * e) 30 = e := by
  have h2 : ((2 : Int) ^ 30) = 1073741824 := by decide
  unfold rsh rdiv
  rw [h2]
  have : (1073741824 * e).natAbs = 1073741824 * e.natAbs := by rw [Int.natAbs_mul]; rfl
  rw [this, show (1073741824 : Int).natAbs = 1073741824 from rfl]
  have e1 : (2 * (1073741824 * e.natAbs) + 1073741824) / (2 * 1073741824) = e.natAbs := by omega
  rw [e1]
  by_cases he : 0 ≤ e
  · rw [if_pos (by simp; omega)]; omega
  · rw [if_neg (by simp; omega)]; omega
theorem cl_varV {a : Int} (h : 1 ≤ a) (h' : a ≤ 72057594037927936) : varV a = a ∧ varH a = false := by
  constructor
  · unfold varV clampV; rw [if_neg (by omega), if_neg (by omega), if_neg (by omega)]
  · unfold varH clampH; simp; omega
theorem cl_subV {a b : Int} (ha : SB a) (hb : SB b) (h : SB (a - b)) : subV a b = a - b ∧ subH a b = false := by
  unfold subV subH
  rw [satV_sb ha, satV_sb hb, satV_sb h, satH_sb ha, satH_sb hb, satH_sb h]; exact ⟨rfl, rfl⟩
theorem cl_rdivnn {x d : Int} (hx : 0 ≤ x) (hd : 0 < d) : 0 ≤ rdiv x d := by
  unfold rdiv
  rw [if_pos (by simp [hx, hd])]; exact Int.natCast_nonneg _
theorem cl_divV {a b : Int} (ha : SB a) (hb : SB b) (h0 : b ≠ 0) (h : SB (rdiv (a * 1073741824) b)) : divV a b 30 = rdiv (a * 1073741824) b ∧ divH a b 30 = false := by
  have e : (2 : Int) ^ (30 : Int).toNat = 1073741824 := by decide
  unfold divV divH byV byH
  rw [if_neg (by decide), satV_sb ha, satV_sb hb, e, satV_sb h, satH_sb ha, satH_sb hb, satH_sb h, if_neg h0]
  refine ⟨rfl, ?_⟩
  simp; exact h0
theorem cl_rshnp {x : Int} (h : x ≤ 0) : rsh x 30 ≤ 0 := by
  have := rsh_err x
  omega
theorem cl_rshnn {x : Int} (h : 0 ≤ x) : 0 ≤ rsh x 30 := cl_rdivnn h (by decide)
theorem cl_rdiv0 {d : Int} (h : d ≠ 0) : rdiv 0 d = 0 := by
  unfold rdiv
  have : (2 * (0 : Int).natAbs + d.natAbs) / (2 * d.natAbs) = 0 := Nat.div_eq_of_lt (by have := Int.natAbs_pos.2 h; simp; omega)
  rw [this]
  split <;> rfl
end Go.Proofs.Ytkllgphhfkoknaa
/- One elimination of a run: its numbers without clamps, and what its roundings come to. No program. -/
namespace Go.Proofs.Ytkllgphhfkoknaa
theorem rsh_ab {x m : Int} (h : ab x ≤ 1073741824 * m) : ab (rsh x 30) ≤ m := by
  have e := rsh_err x
  have := ab_le h
  exact le_ab (by omega)
theorem rsh_two (x : Int) : 2 * ab (1073741824 * rsh x 30 - x) ≤ 1073741824 := by
  have e := rsh_err x
  unfold ab; omega
theorem sb_ab {x m : Int} (h : ab x ≤ m) (hm : m ≤ 1152921504606846976) : SB x := by
  have := ab_le h
  unfold SB; omega
theorem dotS_sg {A B : Nat → Int} : ∀ {n : Nat}, (∀ k, k < n → SB (A k) ∧ SB (B k)) → dotS A B n = sg (fun k => A k * B k) n ∧ dotB A B n = false
  | 0, _ => ⟨rfl, rfl⟩
  | n + 1, h => by
    have ih := dotS_sg (n := n) fun k hk => h k (by omega)
    have hn := h n (by omega)
    unfold dotS dotB sg
    rw [ih.1, ih.2, satV_sb hn.1, satV_sb hn.2, satH_sb hn.1, satH_sb hn.2]
    exact ⟨rfl, rfl⟩
theorem dotV_sg {A B : Nat → Int} {n : Nat} (h : ∀ k, k < n → SB (A k) ∧ SB (B k)) (hs : SB (rsh (sg (fun k => A k * B k) n) 30)) : dotV 30 A B n = rsh (sg (fun k => A k * B k) n) 30 ∧ dotH 30 A B n = false := by
  have d := dotS_sg h
  unfold dotV dotH
  rw [if_neg (by decide), if_neg (by decide), d.1, d.2, show (30 : Int).toNat = 30 from rfl, satV_sb hs, satH_sb hs]
  exact ⟨rfl, rfl⟩
/-- The weights. -/
def WtB (e : Nat → Int) : Prop := ∀ k, k < 48 → 0 ≤ e k ∧ e k ≤ 22000000000000
/-- The rows up to j: the sum of their numbers' sizes, and their squares' sums. -/
def RwB (W e : Nat → Int) (j : Nat) : Prop := ∀ i, i ≤ j → sg (fun k => ab (W (i * 48 + k))) 48 ≤ 50000000000000 ∧ gr (rowF 48 W i) (rowF 48 W i) e ≤ 50706024009129176059868128215040
section
variable {W e : Nat → Int} {j : Nat} (he : WtB e) (hW : RwB W e j)
include hW in
theorem rw_ent {i k : Nat} (hi : i ≤ j) (hk : k < 48) : ab (W (i * 48 + k)) ≤ 50000000000000 := by
  have := sg_one (f := fun k => ab (W (i * 48 + k))) hk fun k _ => (ab_bd _).1
  have := (hW i hi).1
  omega
include he hW in
theorem st_y {k : Nat} (hk : k < 48) : stY W e j k = rsh (W (j * 48 + k) * e k) 30 ∧ yB W e j k = false ∧ SB (stY W e j k) := by
  have h1 := rw_ent hW (Nat.le_refl j) hk
  have h2 := he k hk
  have h3 : ab (W (j * 48 + k) * e k) ≤ 1073741824 * 1152921504606846976 := by
    rw [ab_mul]
    have : ab (e k) ≤ 22000000000000 := le_ab (by omega)
    exact Int.le_trans (Int.mul_le_mul h1 this (ab_bd _).1 (by decide)) (by decide)
  have h4 := sb_ab (rsh_ab h3) (Int.le_refl _)
  have m := mulV_of (sb_ab h1 (by decide)) (show SB (e k) by unfold SB; omega) h4
  unfold stY yB
  exact ⟨m.1, m.2, by rw [m.1]; exact h4⟩
/-- The products of a row with y: told by the weighted sum of products, within the roundings. -/
theorem y_err (he : WtB e) (hW : RwB W e j) {i : Nat} (hi : i ≤ j) :
    2 * ab (1073741824 * sg (fun k => W (i * 48 + k) * stY W e j k) 48 - gr (rowF 48 W i) (rowF 48 W j) e) ≤ 1073741824 * 70368744177664 := by
  have h1 : 1073741824 * sg (fun k => W (i * 48 + k) * stY W e j k) 48 = sg (fun k => (1073741824 * stY W e j k - W (j * 48 + k) * e k) * W (i * 48 + k)) 48 + gr (rowF 48 W i) (rowF 48 W j) e := by
    unfold gr rowF
    rw [← sg_mul, ← sg_add]
    refine sg_congr fun k _ => ?_
    grind
  rw [h1, Int.add_sub_cancel]
  have h2 : ∀ k, k < 48 → ab (2 * (1073741824 * stY W e j k - W (j * 48 + k) * e k)) ≤ 1073741824 := fun k hk => by
    rw [(st_y he hW hk).1, ab_mul, show ab 2 = 2 from rfl]
    exact rsh_two (W (j * 48 + k) * e k)
  have h3 := sg_bd (y := fun k => W (i * 48 + k)) h2
  rw [show (fun k => 2 * (1073741824 * stY W e j k - W (j * 48 + k) * e k) * W (i * 48 + k)) = (fun k => 2 * ((1073741824 * stY W e j k - W (j * 48 + k) * e k) * W (i * 48 + k))) from funext fun k => Int.mul_assoc _ _ _, sg_mul, ab_mul] at h3
  have h4 := (hW i hi).1
  exact Int.le_trans h3 (by omega)
include he in
theorem gr_nonneg (a : Nat → Int) : 0 ≤ gr a a e := sg_nonneg fun k hk => Int.mul_nonneg (sq_nn (a k)) (he k hk).1
include he hW in
/-- The variance of row j. -/
theorem st_d (hd : ∃ k, k < 48 ∧ W (j * 48 + k) = 1073741824 ∧ 17179869184 ≤ e k) :
    2 * ab (1152921504606846976 * stD W e j - gr (rowF 48 W j) (rowF 48 W j) e) ≤ 75559016647418930266112 ∧ 17179869184 ≤ stD W e j ∧ stD W e j ≤ 43980465190000 ∧ dB W e j = false := by
  have hy := y_err he hW (Nat.le_refl j)
  have hg := (hW j (Nat.le_refl j)).2
  have h0 := gr_nonneg he (rowF 48 W j)
  have hr := rsh_err (sg (fun k => W (j * 48 + k) * stY W e j k) 48)
  have hlow : 1073741824 * 17179869184 ≤ sg (fun k => W (j * 48 + k) * stY W e j k) 48 := by
    obtain ⟨k, hk, h1, h2⟩ := hd
    have h3 : ∀ k, k < 48 → 0 ≤ W (j * 48 + k) * stY W e j k := fun k hk => by
      rw [(st_y he hW hk).1]
      by_cases hs : 0 ≤ W (j * 48 + k)
      · exact Int.mul_nonneg hs (cl_rshnn (Int.mul_nonneg hs (he k hk).1))
      · exact Int.mul_nonneg_of_nonpos_of_nonpos (by omega) (cl_rshnp (Int.mul_nonpos_of_nonpos_of_nonneg (by omega) (he k hk).1))
    have h4 := sg_one hk h3
    rw [h1, (st_y he hW hk).1, h1, cl_rshmul] at h4
    have := Int.mul_le_mul_of_nonneg_left h2 (show (0 : Int) ≤ 1073741824 by decide)
    omega
  obtain ⟨S, hS⟩ : ∃ S, sg (fun k => W (j * 48 + k) * stY W e j k) 48 = S := ⟨_, rfl⟩
  rw [hS] at hy hr hlow
  obtain ⟨G, hG⟩ : ∃ G, gr (rowF 48 W j) (rowF 48 W j) e = G := ⟨_, rfl⟩
  rw [hG] at hy hg h0 ⊢
  have hy' := ab_le (show ab (1073741824 * S - G) ≤ 37778931862957161709568 by omega)
  have d0 : 17179869184 ≤ rsh S 30 := by omega
  have d1 : rsh S 30 ≤ 43980465190000 := by omega
  have dv := dotV_sg (A := rowF 48 W j) (B := stY W e j) (n := 48) (fun k hk => ⟨sb_ab (rw_ent hW (Nat.le_refl j) hk) (by decide), (st_y he hW hk).2.2⟩) (by unfold rowF; rw [hS]; unfold SB; omega)
  have dv1 : dotV 30 (rowF 48 W j) (stY W e j) 48 = rsh S 30 := by rw [dv.1]; unfold rowF; rw [hS]
  have vv := cl_varV (a := rsh S 30) (by omega) (by omega)
  have hD : stD W e j = rsh S 30 := by unfold stD; rw [dv1, vv.1]
  refine ⟨?_, by rw [hD]; exact d0, by rw [hD]; exact d1, ?_⟩
  · rw [hD]
    have : ab (1152921504606846976 * rsh S 30 - G) ≤ 37779508323709465133056 := le_ab (by omega)
    omega
  · unfold dB; rw [dv.2, dv1, vv.2]; rfl
include he hW in
/-- The multiple of row j in row i. -/
theorem st_u (hd : ∃ k, k < 48 ∧ W (j * 48 + k) = 1073741824 ∧ 17179869184 ≤ e k) {i : Nat} (hi : i < j) :
    2 * ab (1073741824 * stD W e j * stU W e j i - gr (rowF 48 W i) (rowF 48 W j) e) ≤ 75559016647418930266112 + 1073741824 * stD W e j ∧ ab (stU W e j i) ≤ 56908316672 ∧ uB W e j i = false := by
  have ⟨hv, d0, d1, _⟩ := st_d he hW hd
  have hy := y_err he hW (Nat.le_of_lt hi)
  have hr := rsh_err (sg (fun k => W (i * 48 + k) * stY W e j k) 48)
  have h2 := gr_two (rowF 48 W i) (rowF 48 W j) e (fun k hk => (he k hk).1) 64
  have gi := (hW i (Nat.le_of_lt hi)).2
  have gj := (hW j (Nat.le_refl j)).2
  have g0 := gr_nonneg he (rowF 48 W i)
  obtain ⟨S, hS⟩ : ∃ S, sg (fun k => W (i * 48 + k) * stY W e j k) 48 = S := ⟨_, rfl⟩
  rw [hS] at hy hr
  obtain ⟨V, hV⟩ : ∃ G, gr (rowF 48 W j) (rowF 48 W j) e = G := ⟨_, rfl⟩
  obtain ⟨A, hA⟩ : ∃ G, gr (rowF 48 W i) (rowF 48 W j) e = G := ⟨_, rfl⟩
  obtain ⟨G, hG⟩ : ∃ G, gr (rowF 48 W i) (rowF 48 W i) e = G := ⟨_, rfl⟩
  rw [hV] at hv h2 gj
  rw [hG] at gi h2 g0
  rw [hA] at hy h2 ⊢
  obtain ⟨D, hD⟩ : ∃ D, stD W e j = D := ⟨_, rfl⟩
  rw [hD] at hv d0 d1 ⊢
  have hy' := ab_le (show ab (1073741824 * S - A) ≤ 37778931862957161709568 by omega)
  have hv' := ab_le (show ab (1152921504606846976 * D - V) ≤ 37779508323709465133056 by omega)
  have h2' := ab_le h2
  have pb : -1152921504606846976 ≤ rsh S 30 ∧ rsh S 30 ≤ 1152921504606846976 := by omega
  have dv := dotV_sg (A := rowF 48 W i) (B := stY W e j) (n := 48) (fun k hk => ⟨sb_ab (rw_ent hW (Nat.le_of_lt hi) hk) (by decide), (st_y he hW hk).2.2⟩) (by unfold rowF; rw [hS]; exact pb)
  have dv1 : dotV 30 (rowF 48 W i) (stY W e j) 48 = rsh S 30 := by rw [dv.1]; unfold rowF; rw [hS]
  have q := rdiv_err (x := rsh S 30 * 1073741824) (d := D) (by omega)
  obtain ⟨u, hu⟩ : ∃ u, rdiv (rsh S 30 * 1073741824) D = u := ⟨_, rfl⟩
  rw [hu] at q
  obtain ⟨x, hx⟩ : ∃ x, D * u = x := ⟨_, rfl⟩
  have ub : ab u ≤ 56908316672 := by
    refine Decidable.byContradiction fun hc => ?_
    have m1 := Int.mul_le_mul_of_nonneg_left (show 56908316673 ≤ ab u by omega) (show 0 ≤ D by omega)
    have m2 : D * ab u = ab x := by rw [← hx, ab_mul]; congr 1; unfold ab; omega
    rw [m2] at m1
    rw [hx] at q
    have : ab x = x ∨ ab x = -x := by unfold ab; omega
    omega
  have du := cl_divV (a := rsh S 30) (b := D) pb (by unfold SB; omega) (by omega) (by rw [hu]; exact sb_ab ub (by decide))
  have hU : stU W e j i = u := by unfold stU; rw [dv1, hD, du.1, hu]
  rw [hU]
  refine ⟨?_, ub, ?_⟩
  · rw [Int.mul_assoc, hx]
    rw [hx] at q
    have : ab (1073741824 * x - A) ≤ 37779508323709465133056 + 536870912 * D := le_ab (by omega)
    omega
  · unfold uB; rw [dv.2, dv1, hD, du.2]; rfl
include hW in
/-- What is left of row i. -/
theorem st_w {i k : Nat} (hi : i < j) (hk : k < 48) {u : Int} (hu : ab u ≤ 56908316672) : elV W u j i k = W (i * 48 + k) - rsh (u * W (j * 48 + k)) 30 ∧ elB W u j i k = false := by
  have h1 := rw_ent hW (Nat.le_refl j) hk
  have h2 := rw_ent hW (Nat.le_of_lt hi) hk
  have h3 : ab (u * W (j * 48 + k)) ≤ 1073741824 * 3729543441416192 := by
    rw [ab_mul]
    exact Int.le_trans (Int.mul_le_mul hu h1 (ab_bd _).1 (by decide)) (by decide)
  have h4 := rsh_ab h3
  have m := mulV_of (sb_ab hu (by decide)) (sb_ab h1 (by decide)) (sb_ab h4 (by decide))
  have h5 := ab_le h4
  have h6 := ab_le h2
  have s := cl_subV (a := W (i * 48 + k)) (b := rsh (u * W (j * 48 + k)) 30) (sb_ab h2 (by decide)) (sb_ab h4 (by decide)) (by unfold SB; omega)
  unfold elV elB
  rw [m.1, m.2, s.1, s.2]
  exact ⟨rfl, rfl⟩
end
end Go.Proofs.Ytkllgphhfkoknaa
/- One elimination: what is left of the weighted products of rows. No program. -/
namespace Go.Proofs.Ytkllgphhfkoknaa
theorem sg_wt {e : Nat → Int} (he : WtB e) : 0 ≤ sg e 48 ∧ sg e 48 ≤ 1056000000000000 := by
  refine ⟨sg_nonneg fun k hk => (he k hk).1, ?_⟩
  have h := sg_le (f := e) (g := fun _ => 22000000000000) (n := 48) fun k hk => (he k hk).2
  rw [sg_const] at h
  exact Int.le_trans h (by decide)
/-- Roundings times a row: by the row's square and the weights. -/
theorem rnd_row {e ρ b : Nat → Int} (he : WtB e) (hρ : ∀ k, k < 48 → 2 * ab (ρ k) ≤ 1073741824) : 4 * ab (sg (fun k => ρ k * b k * e k) 48) ≤ gr b b e + 1152921504606846976 * sg e 48 := by
  have h1 : ∀ k, k < 48 → -(b k * b k * e k + 1152921504606846976 * e k) ≤ 4 * (ρ k * b k * e k) ∧ 4 * (ρ k * b k * e k) ≤ b k * b k * e k + 1152921504606846976 * e k := by
    intro k hk
    have e0 := (he k hk).1
    have q := hρ k hk
    have p1 : ab (ρ k * b k) ≤ 536870912 * ab (b k) := by rw [ab_mul]; exact Int.mul_le_mul_of_nonneg_right (by omega) (ab_bd _).1
    have p2 := sq_nn (ab (b k) - 1073741824)
    have p3 : ab (b k) * ab (b k) = b k * b k := by
      rcases (show ab (b k) = b k ∨ ab (b k) = -(b k) by unfold ab; omega) with h | h <;> rw [h]
      exact Int.neg_mul_neg _ _
    have p4 : 4 * ab (ρ k * b k) ≤ b k * b k + 1152921504606846976 := by
      have : (ab (b k) - 1073741824) * (ab (b k) - 1073741824) = ab (b k) * ab (b k) - 2147483648 * ab (b k) + 1152921504606846976 := by grind
      omega
    have p5 := Int.mul_le_mul_of_nonneg_right p4 e0
    have p6 : ab (ρ k * b k * e k) = ab (ρ k * b k) * e k := by rw [ab_mul (ρ k * b k)]; congr 1; unfold ab; omega
    have p7 : 4 * ab (ρ k * b k * e k) ≤ b k * b k * e k + 1152921504606846976 * e k := by rw [p6]; rw [Int.mul_assoc, Int.add_mul] at p5; exact p5
    have := ab_bd (ρ k * b k * e k)
    omega
  have h2 := sg_abs h1
  rw [sg_mul, sg_add, sg_mul] at h2
  have : gr b b e = sg (fun k => b k * b k * e k) 48 := rfl
  unfold ab
  omega
theorem rnd_rnd {e ρ σ : Nat → Int} (he : WtB e) (hρ : ∀ k, k < 48 → 2 * ab (ρ k) ≤ 1073741824) (hσ : ∀ k, k < 48 → 2 * ab (σ k) ≤ 1073741824) : ab (sg (fun k => ρ k * σ k * e k) 48) ≤ 288230376151711744 * sg e 48 := by
  have h1 : ∀ k, k < 48 → ab (ρ k * σ k) ≤ 288230376151711744 := fun k hk => by
    rw [ab_mul]
    have a := hρ k hk
    have b := hσ k hk
    exact Int.le_trans (Int.mul_le_mul (show ab (ρ k) ≤ 536870912 by omega) (show ab (σ k) ≤ 536870912 by omega) (ab_bd _).1 (by decide)) (by decide)
  have h2 := sg_bd (y := e) h1
  rwa [show sg (fun k => ab (e k)) 48 = sg e 48 from sg_congr fun k hk => by have := (he k hk).1; unfold ab; omega] at h2
theorem ab_mul2 {u x U X : Int} (hu : ab u ≤ U) (hx : 2 * ab x ≤ X) : 2 * ab (u * x) ≤ U * X := by
  have h0 := (ab_bd u).1
  have h1 := (ab_bd x).1
  have h2 := Int.mul_le_mul hu hx (by omega) (by omega)
  rw [ab_mul]
  have : ab u * (2 * ab x) = 2 * (ab u * ab x) := by grind
  omega
section
variable {W e : Nat → Int} {j : Nat} (he : WtB e) (hW : RwB W e j) (hd : ∃ k, k < 48 ∧ W (j * 48 + k) = 1073741824 ∧ 17179869184 ≤ e k)
/-- What is taken away from row i. -/
def tkR (W e : Nat → Int) (j i : Nat) : Nat → Int := fun k => rsh (stU W e j i * W (j * 48 + k)) 30
def lfR (W e : Nat → Int) (j i : Nat) : Nat → Int := fun k => rowF 48 W i k - tkR W e j i k
include he hW hd in
theorem pair_raw {i l : Nat} (hi : i < j) (hl : l < j) : ∃ Z1 Z2 Z3 X1 X2 X3 : Int,
    1073741824 * 1073741824 * (gr (lfR W e j i) (lfR W e j l) e - gr (rowF 48 W i) (rowF 48 W l) e + stU W e j i * stU W e j l * stD W e j) = 1073741824 * X1 + 1073741824 * X2 - X3 - 1073741824 * Z1 - 1073741824 * Z2 - Z3 ∧
    2 * ab X1 ≤ 56908316672 * 122782681640000000000000 ∧ 2 * ab X2 ≤ 56908316672 * 122782681640000000000000 ∧ 2 * ab X3 ≤ 3238556506440633155584 * 75559016647418930266112 ∧
    4 * ab Z1 ≤ gr (lfR W e j l) (lfR W e j l) e + 1217485108864830406656000000000000 ∧ 4 * ab Z2 ≤ gr (lfR W e j i) (lfR W e j i) e + 1217485108864830406656000000000000 ∧ ab Z3 ≤ 304371277216207601664000000000000 := by
  have ⟨hv, d0, d1, _⟩ := st_d he hW hd
  have hu := st_u he hW hd hi
  have ht := st_u he hW hd hl
  obtain ⟨E0, E1⟩ := sg_wt he
  have hρ : ∀ i k, 2 * ab (1073741824 * tkR W e j i k - stU W e j i * rowF 48 W j k) ≤ 1073741824 := fun i k => rsh_two _
  have core := el_core (a := rowF 48 W i) (b := rowF 48 W l) (v := rowF 48 W j) (e := e) (r := tkR W e j i) (s := tkR W e j l) (ρ := fun k => 1073741824 * tkR W e j i k - stU W e j i * rowF 48 W j k) (σ := fun k => 1073741824 * tkR W e j l k - stU W e j l * rowF 48 W j k)
    (O := 1073741824) (u := stU W e j i) (t := stU W e j l) (d := stD W e j) (εa := 1073741824 * stD W e j * stU W e j i - gr (rowF 48 W i) (rowF 48 W j) e) (εb := 1073741824 * stD W e j * stU W e j l - gr (rowF 48 W l) (rowF 48 W j) e) (εv := 1073741824 * 1073741824 * stD W e j - gr (rowF 48 W j) (rowF 48 W j) e)
    (fun k _ => by omega) (fun k _ => by omega) (by omega) (by omega) (by omega)
  have z1 := rnd_row (b := fun k => rowF 48 W l k - tkR W e j l k) he fun k _ => hρ i k
  have z2 := rnd_row (b := fun k => rowF 48 W i k - tkR W e j i k) he fun k _ => hρ l k
  have z3 := rnd_rnd he (fun k _ => hρ i k) fun k _ => hρ l k
  have x1 := ab_mul2 hu.2.1 (show 2 * ab (1073741824 * stD W e j * stU W e j l - gr (rowF 48 W l) (rowF 48 W j) e) ≤ 122782681640000000000000 by omega)
  have x2 := ab_mul2 ht.2.1 (show 2 * ab (1073741824 * stD W e j * stU W e j i - gr (rowF 48 W i) (rowF 48 W j) e) ≤ 122782681640000000000000 by omega)
  have ut : ab (stU W e j i * stU W e j l) ≤ 3238556506440633155584 := by
    rw [ab_mul]
    exact Int.le_trans (Int.mul_le_mul hu.2.1 ht.2.1 (ab_bd _).1 (by decide)) (by decide)
  have x3 := ab_mul2 ut (show 2 * ab (1073741824 * 1073741824 * stD W e j - gr (rowF 48 W j) (rowF 48 W j) e) ≤ 75559016647418930266112 by rw [show (1073741824 : Int) * 1073741824 = 1152921504606846976 from rfl]; exact hv)
  refine ⟨_, _, _, _, _, _, ?_, x1, x2, x3, Int.le_trans z1 ?_, Int.le_trans z2 ?_, Int.le_trans z3 ?_⟩
  · unfold lfR
    rw [Int.mul_add, Int.mul_sub, core]
    omega
  · unfold lfR; omega
  · unfold lfR; omega
  · omega
include he hW hd in
/-- The squares' sum of what is left of a row is no greater, but for roundings. -/
theorem pair_own {i : Nat} (hi : i < j) : gr (lfR W e j i) (lfR W e j i) e ≤ gr (rowF 48 W i) (rowF 48 W i) e + 116056878683004400771792896 := by
  obtain ⟨Z1, Z2, Z3, X1, X2, X3, h, x1, x2, x3, z1, z2, z3⟩ := pair_raw he hW hd hi hi
  have d0 := (st_d he hW hd).2.1
  have hg := (hW i (Nat.le_of_lt hi)).2
  have g0 := gr_nonneg he (rowF 48 W i)
  have g1 := gr_nonneg he (lfR W e j i)
  have q := Int.mul_nonneg (sq_nn (stU W e j i)) (show 0 ≤ stD W e j by omega)
  generalize stU W e j i * stU W e j i * stD W e j = y at *
  generalize gr (lfR W e j i) (lfR W e j i) e = G' at *
  generalize gr (rowF 48 W i) (rowF 48 W i) e = G at *
  have a1 := ab_bd X1
  have a2 := ab_bd X2
  have a3 := ab_bd X3
  have b1 := ab_bd Z1
  have b2 := ab_bd Z2
  have b3 := ab_bd Z3
  omega
include he hW hd in
theorem pair_two {i l : Nat} (hi : i < j) (hl : l < j) : ab (gr (lfR W e j i) (lfR W e j l) e - gr (rowF 48 W i) (rowF 48 W l) e + stU W e j i * stU W e j l * stD W e j) ≤ 116056878683004400771792896 := by
  obtain ⟨Z1, Z2, Z3, X1, X2, X3, h, x1, x2, x3, z1, z2, z3⟩ := pair_raw he hW hd hi hl
  have o1 := pair_own he hW hd hi
  have o2 := pair_own he hW hd hl
  have hg := (hW i (Nat.le_of_lt hi)).2
  have hg2 := (hW l (Nat.le_of_lt hl)).2
  generalize gr (lfR W e j i) (lfR W e j l) e - gr (rowF 48 W i) (rowF 48 W l) e + stU W e j i * stU W e j l * stD W e j = y at *
  generalize gr (lfR W e j i) (lfR W e j i) e = G' at *
  generalize gr (rowF 48 W i) (rowF 48 W i) e = G at *
  generalize gr (lfR W e j l) (lfR W e j l) e = F' at *
  generalize gr (rowF 48 W l) (rowF 48 W l) e = F at *
  have a1 := ab_bd X1
  have a2 := ab_bd X2
  have a3 := ab_bd X3
  have b1 := ab_bd Z1
  have b2 := ab_bd Z2
  have b3 := ab_bd Z3
  exact le_ab (by omega)
end
end Go.Proofs.Ytkllgphhfkoknaa
/- All eliminations of a run: what comes out is the weighted products of the rows, within roundings. No program. -/
namespace Go.Proofs.Ytkllgphhfkoknaa
/-- Row j has One where the weight is great. -/
def Nrm (W e : Nat → Int) (j : Nat) : Prop := ∃ k, k < 48 ∧ W (j * 48 + k) = 1073741824 ∧ 17179869184 ≤ e k
/-- Row j is One alone, where no other row ahead has a number. -/
def Pln (W e : Nat → Int) (j : Nat) : Prop := ∃ k0, k0 < 48 ∧ W (j * 48 + k0) = 1073741824 ∧ 1 ≤ e k0 ∧ (∀ k, k < 48 → k ≠ k0 → W (j * 48 + k) = 0) ∧ ∀ i, i < j → W (i * 48 + k0) = 0
theorem cl_orB {p : Nat → Bool} : ∀ {n : Nat}, (∀ i, i < n → p i = false) → orB p n = false
  | 0, _ => rfl
  | n + 1, h => by unfold orB; rw [cl_orB (n := n) fun i hi => h i (by omega), h n (by omega)]; rfl
theorem sg_zero {f : Nat → Int} {n : Nat} (h : ∀ k, k < n → f k = 0) : sg f n = 0 := by
  rw [sg_congr h, sg_const]; simp
theorem sg_only {f : Nat → Int} {a : Nat} : ∀ {n : Nat}, a < n → (∀ k, k < n → k ≠ a → f k = 0) → sg f n = f a
  | 0, h, _ => absurd h (Nat.not_lt_zero _)
  | n + 1, h, h0 => by
    unfold sg
    by_cases e : a = n
    · subst e; rw [sg_zero fun k hk => h0 k (by omega) (by omega)]; omega
    · rw [sg_only (n := n) (by omega) fun k hk => h0 k (by omega), h0 n (by omega) (by omega)]; omega
theorem row_lt {W e : Nat → Int} {j i k : Nat} (hi : i < j) (hk : k < 48) : elW W e j j 0 (i * 48 + k) = elV W (stU W e j i) j i k := by
  have e1 : (i * 48 + k) / 48 = i := by omega
  have e2 : (i * 48 + k) % 48 = k := by omega
  unfold elW; rw [e1, e2, if_pos (.inl hi)]
theorem row_ge {W e : Nat → Int} {j i k : Nat} (hi : j ≤ i) (hk : k < 48) : elW W e j j 0 (i * 48 + k) = W (i * 48 + k) := by
  have e1 : (i * 48 + k) / 48 = i := by omega
  unfold elW; rw [e1, if_neg (by omega)]
/-- What a stage does. -/
structure StO (W e : Nat → Int) (j : Nat) : Prop where
  flag : stageH W e j = false
  u : ∀ i, i < j → ab (stU W e j i) ≤ 56908316672
  w : ∀ i, i < j → ∀ k, k < 48 → elW W e j j 0 (i * 48 + k) = W (i * 48 + k) - rsh (stU W e j i * W (j * 48 + k)) 30
  own : ∀ i, i < j → gr (lfR W e j i) (lfR W e j i) e ≤ gr (rowF 48 W i) (rowF 48 W i) e + 116056878683004400771792896
  two : ∀ i l, i < j → l < j → ab (gr (lfR W e j i) (lfR W e j l) e - gr (rowF 48 W i) (rowF 48 W l) e + stU W e j i * stU W e j l * stD W e j) ≤ 116056878683004400771792896
section
variable {W e : Nat → Int} {j : Nat} (he : WtB e) (hW : RwB W e j)
include he hW in
theorem stage_flag (hd : dB W e j = false) (hu : ∀ i, i < j → uB W e j i = false ∧ ab (stU W e j i) ≤ 56908316672) : stageH W e j = false := by
  unfold stageH
  rw [hd, cl_orB fun k hk => (st_y he hW hk).2.1, cl_orB]; rfl
  intro i hi
  unfold rowB
  rw [(hu i hi).1, cl_orB fun k hk => (st_w hW hi hk (hu i hi).2).2]; rfl
include he hW in
theorem nrm_out (hd : Nrm W e j) : StO W e j := by
  have d := st_d he hW hd
  refine ⟨stage_flag he hW d.2.2.2 fun i hi => ⟨(st_u he hW hd hi).2.2, (st_u he hW hd hi).2.1⟩, fun i hi => (st_u he hW hd hi).2.1, fun i hi k hk => ?_, fun i hi => pair_own he hW hd hi, fun i l hi hl => pair_two he hW hd hi hl⟩
  rw [row_lt hi hk, (st_w hW hi hk (st_u he hW hd hi).2.1).1]
include he hW in
theorem pln_y {k0 : Nat} (h1 : W (j * 48 + k0) = 1073741824) (h3 : ∀ k, k < 48 → k ≠ k0 → W (j * 48 + k) = 0) {k : Nat} (hk : k < 48) : stY W e j k = if k = k0 then e k0 else 0 := by
  rw [(st_y he hW hk).1]
  by_cases h : k = k0
  · rw [if_pos h, h, h1, cl_rshmul]
  · rw [if_neg h, h3 k hk h, Int.zero_mul]; rfl
include he hW in
theorem pln_d (hd : Pln W e j) : ∃ k0, k0 < 48 ∧ stD W e j = e k0 ∧ dB W e j = false ∧ (∀ i, i < j → stU W e j i = 0 ∧ uB W e j i = false) ∧ W (j * 48 + k0) = 1073741824 := by
  obtain ⟨k0, hk0, h1, h2, h3, h4⟩ := hd
  have hy := fun {k} (hk : k < 48) => pln_y he hW h1 h3 hk
  have e0 := he k0 hk0
  have hs : sg (fun k => W (j * 48 + k) * stY W e j k) 48 = 1073741824 * e k0 := by
    rw [sg_only hk0 fun k hk hne => by rw [h3 k hk hne, Int.zero_mul], h1, hy hk0, if_pos rfl]
  have dv := dotV_sg (A := rowF 48 W j) (B := stY W e j) (n := 48) (fun k hk => ⟨sb_ab (rw_ent hW (Nat.le_refl j) hk) (by decide), (st_y he hW hk).2.2⟩) (by unfold rowF; rw [hs, cl_rshmul]; unfold SB; omega)
  have dv1 : dotV 30 (rowF 48 W j) (stY W e j) 48 = e k0 := by rw [dv.1]; unfold rowF; rw [hs, cl_rshmul]
  have vv := cl_varV (a := e k0) (by omega) (by omega)
  have hD : stD W e j = e k0 := by unfold stD; rw [dv1, vv.1]
  refine ⟨k0, hk0, hD, by unfold dB; rw [dv.2, dv1, vv.2]; rfl, fun i hi => ?_, h1⟩
  have hz : sg (fun k => W (i * 48 + k) * stY W e j k) 48 = 0 := sg_zero fun k hk => by
    rw [hy hk]
    split
    · next h => rw [h, h4 i hi, Int.zero_mul]
    · exact Int.mul_zero _
  have du := dotV_sg (A := rowF 48 W i) (B := stY W e j) (n := 48) (fun k hk => ⟨sb_ab (rw_ent hW (Nat.le_of_lt hi) hk) (by decide), (st_y he hW hk).2.2⟩) (by unfold rowF; rw [hz]; unfold SB; decide)
  have du1 : dotV 30 (rowF 48 W i) (stY W e j) 48 = 0 := by rw [du.1]; unfold rowF; rw [hz]; rfl
  have r0 : rdiv (0 * 1073741824) (e k0) = 0 := by rw [Int.zero_mul]; exact cl_rdiv0 (by omega)
  have q := cl_divV (a := 0) (b := e k0) (by unfold SB; decide) (by unfold SB; omega) (by omega) (by rw [r0]; unfold SB; decide)
  exact ⟨by unfold stU; rw [du1, hD, q.1, r0], by unfold uB; rw [du.2, du1, hD, q.2]; rfl⟩
include he hW in
theorem pln_out (hd : Pln W e j) : StO W e j := by
  obtain ⟨k0, hk0, hD, hB, hu, h1⟩ := pln_d he hW hd
  have hl : ∀ i, i < j → lfR W e j i = rowF 48 W i := fun i hi => by
    funext k
    unfold lfR tkR
    rw [(hu i hi).1, Int.zero_mul, show rsh 0 30 = 0 by decide, Int.sub_zero]
  refine ⟨stage_flag he hW hB fun i hi => ⟨(hu i hi).2, by rw [(hu i hi).1]; decide⟩, fun i hi => by rw [(hu i hi).1]; decide, fun i hi k hk => ?_, fun i hi => ?_, fun i l hi hl2 => ?_⟩
  · rw [row_lt hi hk, (st_w hW hi hk (by rw [(hu i hi).1]; decide)).1]
  · rw [hl i hi]; omega
  · rw [hl i hi, hl l hl2, (hu i hi).1]
    simp [ab]
end
/-- The multiple of the row of stage m in row i, and that row's variance. -/
def UU (W e : Nat → Int) (i m : Nat) : Int := stU (WN W e m) e (23 - m) i
def DD (W e : Nat → Int) (m : Nat) : Int := stD (WN W e m) e (23 - m)
/-- What all stages ahead took of the product of rows i and l. -/
def SS (W e : Nat → Int) (i l n : Nat) : Int := sg (fun m => UU W e i m * UU W e l m * DD W e m) n
structure RnI (W e : Nat → Int) (n : Nat) : Prop where
  flag : HN W e n = false
  own : ∀ i, i < 24 - n → gr (rowF 48 (WN W e n) i) (rowF 48 (WN W e n) i) e ≤ gr (rowF 48 W i) (rowF 48 W i) e + n * 116056878683004400771792896
  two : ∀ i l, i < 24 - n → l < 24 - n → ab (gr (rowF 48 (WN W e n) i) (rowF 48 (WN W e n) l) e - gr (rowF 48 W i) (rowF 48 W l) e + SS W e i l n) ≤ n * 116056878683004400771792896
theorem run_step {W e : Nat → Int} {n : Nat} (hn : n < 24) (I : RnI W e n) (S : StO (WN W e n) e (23 - n)) : RnI W e (n + 1) := by
  have hrow : ∀ i, i < 24 - (n + 1) → gr (rowF 48 (WN W e (n + 1)) i) = gr (lfR (WN W e n) e (23 - n) i) → True := fun _ _ _ => trivial
  clear hrow
  have hr : ∀ i, i < 23 - n → ∀ k, k < 48 → rowF 48 (WN W e (n + 1)) i k = lfR (WN W e n) e (23 - n) i k := fun i hi k hk => S.w i hi k hk
  have hg : ∀ i l, i < 23 - n → l < 23 - n → gr (rowF 48 (WN W e (n + 1)) i) (rowF 48 (WN W e (n + 1)) l) e = gr (lfR (WN W e n) e (23 - n) i) (lfR (WN W e n) e (23 - n) l) e := fun i l hi hl => sg_congr fun k hk => by rw [hr i hi k hk, hr l hl k hk]
  refine ⟨?_, fun i hi => ?_, fun i l hi hl => ?_⟩
  · show (HN W e n || stageH (WN W e n) e (23 - n)) = false
    rw [I.flag, S.flag]; rfl
  · rw [hg i i (by omega) (by omega)]
    have a := S.own i (by omega)
    have b := I.own i (by omega)
    rw [Int.natCast_add, Int.add_mul]
    omega
  · rw [hg i l (by omega) (by omega)]
    have a := S.two i l (by omega) (by omega)
    have b := I.two i l (by omega) (by omega)
    have e1 : SS W e i l (n + 1) = SS W e i l n + stU (WN W e n) e (23 - n) i * stU (WN W e n) e (23 - n) l * stD (WN W e n) e (23 - n) := rfl
    have c := ab_add (gr (lfR (WN W e n) e (23 - n) i) (lfR (WN W e n) e (23 - n) l) e - gr (rowF 48 (WN W e n) i) (rowF 48 (WN W e n) l) e + stU (WN W e n) e (23 - n) i * stU (WN W e n) e (23 - n) l * stD (WN W e n) e (23 - n)) (gr (rowF 48 (WN W e n) i) (rowF 48 (WN W e n) l) e - gr (rowF 48 W i) (rowF 48 W l) e + SS W e i l n)
    rw [e1, Int.natCast_add, Int.add_mul]
    refine Int.le_trans (Int.le_of_eq ?_) (Int.le_trans c (Int.le_trans (Int.add_le_add a b) (Int.le_of_eq ?_)))
    · congr 1; omega
    · omega
/-- What a run needs: P tells more of the rows, from which their sizes come. -/
structure RunH (W e : Nat → Int) (P : Nat → Prop) : Prop where
  he : WtB e
  p0 : P 0
  g : ∀ i, i < 24 → gr (rowF 48 W i) (rowF 48 W i) e ≤ 50700000000000000000000000000000
  hN : ∀ n, n < 24 → P n → (∀ i, i ≤ 23 - n → gr (rowF 48 (WN W e n) i) (rowF 48 (WN W e n) i) e ≤ 50706024009129176059868128215040) → ∀ i, i ≤ 23 - n → sg (fun k => ab (WN W e n (i * 48 + k))) 48 ≤ 50000000000000
  hS : ∀ n, n < 24 → P n → Nrm (WN W e n) e (23 - n) ∨ Pln (WN W e n) e (23 - n)
  hP : ∀ n, n < 24 → P n → RwB (WN W e n) e (23 - n) → StO (WN W e n) e (23 - n) → P (n + 1)
theorem RunH.rw {W e : Nat → Int} {P : Nat → Prop} (H : RunH W e P) {n : Nat} (hn : n < 24) (p : P n) (I : RnI W e n) : RwB (WN W e n) e (23 - n) := by
  have g : ∀ i, i ≤ 23 - n → gr (rowF 48 (WN W e n) i) (rowF 48 (WN W e n) i) e ≤ 50706024009129176059868128215040 := fun i hi => by
    have a := I.own i (by omega)
    have b := H.g i (by omega)
    omega
  exact fun i hi => ⟨H.hN n hn p g i hi, g i hi⟩
theorem RunH.all {W e : Nat → Int} {P : Nat → Prop} (H : RunH W e P) : ∀ n, n ≤ 24 → P n ∧ RnI W e n
  | 0, _ => ⟨H.p0, rfl, fun i hi => by show gr (rowF 48 W i) (rowF 48 W i) e ≤ _; omega, fun i l _ _ => by
      show ab (gr (rowF 48 W i) (rowF 48 W l) e - gr (rowF 48 W i) (rowF 48 W l) e + 0) ≤ _
      simp [ab]⟩
  | n + 1, hn => by
    obtain ⟨p, I⟩ := H.all n (by omega)
    have hW := H.rw (by omega) p I
    have S : StO (WN W e n) e (23 - n) := (H.hS n (by omega) p).elim (nrm_out H.he hW) (pln_out H.he hW)
    exact ⟨H.hP n (by omega) p hW S, run_step (by omega) I S⟩
end Go.Proofs.Ytkllgphhfkoknaa
