/- The walk of StrapKnown. -/
import Derived.Test.YtnnjcdbliaecgaaQ18
namespace Go.Proofs.Ytnnjcdbliaecgaa
open Go.RowKit
set_option maxRecDepth 100000
def kn16S : Nat → Int := fun i => if i = 0 then 1073741824 else if i = 4 then 1073741824 else 0
def kn16I : Nat → Int := fun i => if i = 1 then 1000000 else if 5 ≤ i then stlF 1000000 (5 + (i - 5)) else 0
theorem kn16_facts : stepN kn16S kn16I 7 = 1073741824 ∧ stepN kn16S kn16I 4 = 1073741824 ∧ stepN kn16S kn16I 6 = 0 ∧ stepH2 kn16S kn16I = false := by decide +kernel
open Go in
theorem run_build_st5 {o : Oper} {ev : Operand → Value} {w : World} (x0 x1 x2 x3 x4 : Operand) (ho : o.op = .build 27 #[(0, x0), (1, x1), (2, x2), (3, x3), (4, x4)]) (h0 : ev x0 = .int .i64 1073741824) (h1 : ev x1 = .int .i64 0) (h2 : ev x2 = .int .i64 0) (h3 : ev x3 = .int .i64 0) (h4 : ev x4 = .int .i64 1073741824) :
    (execOp ev o).run Try.prog w = .ok (.value (.agg (arrv 24 kn16S))) w := by
  unfold execOp
  simp only [ho, List.map_toArray, List.map_cons, List.map_nil, h0, h1, h2, h3, h4]
  kernel_rfl
open Go in
/-- The velocities gained, of a sample's value. -/
theorem run_field_dv {o : Oper} {ev : Operand → Value} {w : World} (x : Operand) (ho : o.op = .field 31 x 3) {F : Nat → Int} (hx : ev x = .agg (arrv 8 F)) :
    (execOp ev o).run Try.prog w = .ok (.value (.agg (arrv 3 (fun i => F (5 + i))))) w := by
  unfold execOp
  simp only [ho, hx]
  kernel_rfl
set_option maxHeartbeats 16000000 in
theorem known16_walk (w : World) : Calls Try.prog 3 #[] w fun e w' => e = .returned (.bool true) ∧ Below w.heap.size w w' := by
  have SC := fun (c : Addr) (x : World) (k : x.cell? c = some (.bool false)) (f : x.frozen? c = false) => step_any2 c false kn16S kn16I x k f
  rw [kn16_facts.2.2.2] at SC
  have EV := Lib.hid (And.intro kn16_facts.1 (And.intro kn16_facts.2.1 kn16_facts.2.2.1))
  obtain ⟨G, hG⟩ : ∃ x, stepN kn16S kn16I = x := ⟨_, rfl⟩
  rw [hG] at SC EV
  have SC := Lib.hid SC
  clear hG
  go_enter Try.func3, Try.ntmps3
  go_upto_region 3 with (go_at_call 8; (refine (awake16_any _).mono ?_); rintro e w1 ⟨rfl, hb1⟩)
  have B0 := Lib.hid (And.intro ((Below.refl w1.heap.size w1).alloc (Nat.le_refl _) (.cells #[.bool false] 25)) (And.intro (Flg.new w1 false) hb1))
  clear hb1
  go_upto_region 4 with fail
  generalize w1.alloc (.cells #[.bool false] 25) = W0 at *
  refine wp_region_lit ?_
  refine wpList_val (v := ?_) rfl ?_ ?_
  rotate_left
  · (go_simp; (try (first | with_reducible rfl | (constructor <;> with_reducible rfl))))
  (try simp only [Act.put, nA, nB, nC])
  refine wpList_val (v := ?_) rfl ?_ ?_
  rotate_left
  · (refine Eq.trans (run_build_st5 (.const (.int .i64 1073741824)) (.const (.int .i64 0)) (.const (.int .i64 0)) (.const (.int .i64 0)) (.const (.int .i64 1073741824)) (by rfl) (by rfl) (by rfl) (by rfl) (by rfl) (by rfl)) ?_; with_reducible rfl)
  (try simp only [Act.put, nA, nB, nC])
  refine wpList_step (fun K hK => ?_)
  go_simp
  (refine (still_any 1000000 _).mono ?_); rintro e w2 ⟨rfl, hb⟩; have B1 := Lib.hid (And.intro (B0.out.1.trans (hb.mono B0.out.1.size)) (And.intro (B0.out.2.1.below hb) B0.out.2.2)); clear hb B0
  (try dsimp only)
  (try simp only [Act.put, nA, nB, nC])
  refine hK _ _ ?_
  clear hK K
  refine wpList_val (v := ?_) rfl ?_ ?_
  rotate_left
  · (refine Eq.trans (run_field_dv (.tmp 9) (by rfl) (by rfl)) ?_; with_reducible rfl)
  (try simp only [Act.put, nA, nB, nC])
  refine wpList_val (v := ?_) rfl ?_ ?_
  rotate_left
  · (refine Eq.trans (run_build_imu (.const (.int .i64 1000000)) (.tmp 10) (by rfl) (by rfl) (by rfl)) ?_; rw [show (fun i => if i = 1 then (1000000 : Int) else if 5 ≤ i then stlF 1000000 (5 + (i - 5)) else 0) = kn16I from rfl])
  (try simp only [Act.put, nA, nB, nC])
  refine wpList_step (fun K hK => ?_)
  go_simp
  (refine (SC.out ⟨w1.heap.size, 0, none⟩ _ B1.out.2.1.cell B1.out.2.1.free).mono ?_); rintro e w3 ⟨rfl, hu⟩; have F3 := Lib.hid (B1.out.2.1.hit hu); have B3 := Lib.hid (Below.after B1.out.2.2 (below_of_upd B1.out.1 hu (Nat.le_refl _))); clear hu B1 SC
  (try dsimp only)
  (try simp only [Act.put, nA, nB, nC])
  refine hK _ _ ?_
  clear hK K
  refine wpList_act (v := ?_) (w' := ?_) rfl ?_ ?_
  rotate_left 2
  · (go_simp; (try (first | with_reducible rfl | (constructor <;> with_reducible rfl))))
  (try simp only [Act.put, nA, nB, nC])
  refine wpList_done (w' := ?_) rfl ?_ ?_
  rotate_left
  · (refine Eq.trans (run_store_row 27 (.tmp 2) (.tmp 12) (by rfl) (w3.heap.size) (by rfl) (by rfl) (show Blk (w3.alloc (.cells #[.int .i64 0, .int .i64 0, .int .i64 0, .int .i64 0, .int .i64 0, .int .i64 0, .int .i64 0, .int .i64 0, .int .i64 0, .int .i64 0, .int .i64 0, .int .i64 0, .int .i64 0, .int .i64 0, .int .i64 0, .int .i64 0, .int .i64 0, .int .i64 0, .int .i64 0, .int .i64 0, .int .i64 0, .int .i64 0, .int .i64 0, .int .i64 0] 27)) w3.heap.size 27 24 (fun _ => 0) by rw [zvec24]; exact Blk.new _ _ _ _) (ist.trans rfl)) ?_; with_reducible rfl)
  (try simp only [Act.put, nA, nB, nC])
  refine wpList_nil ?_
  have P4 : Blk ((w3.alloc (.cells #[.int .i64 0, .int .i64 0, .int .i64 0, .int .i64 0, .int .i64 0, .int .i64 0, .int .i64 0, .int .i64 0, .int .i64 0, .int .i64 0, .int .i64 0, .int .i64 0, .int .i64 0, .int .i64 0, .int .i64 0, .int .i64 0, .int .i64 0, .int .i64 0, .int .i64 0, .int .i64 0, .int .i64 0, .int .i64 0, .int .i64 0, .int .i64 0] 27)).setRow w3.heap.size (arrv 24 G)) w3.heap.size 27 24 G := by rw [zvec24]; exact (Blk.new _ _ _ _).setRow G
  have F4 : Flg ((w3.alloc (.cells #[.int .i64 0, .int .i64 0, .int .i64 0, .int .i64 0, .int .i64 0, .int .i64 0, .int .i64 0, .int .i64 0, .int .i64 0, .int .i64 0, .int .i64 0, .int .i64 0, .int .i64 0, .int .i64 0, .int .i64 0, .int .i64 0, .int .i64 0, .int .i64 0, .int .i64 0, .int .i64 0, .int .i64 0, .int .i64 0, .int .i64 0, .int .i64 0] 27)).setRow w3.heap.size (arrv 24 G)) w1.heap.size false := (F3.out.alloc _).row _ (by have := F3.out.lt; omega)
  have B4 := Lib.hid (show Below w.heap.size w ((w3.alloc (.cells #[.int .i64 0, .int .i64 0, .int .i64 0, .int .i64 0, .int .i64 0, .int .i64 0, .int .i64 0, .int .i64 0, .int .i64 0, .int .i64 0, .int .i64 0, .int .i64 0, .int .i64 0, .int .i64 0, .int .i64 0, .int .i64 0, .int .i64 0, .int .i64 0, .int .i64 0, .int .i64 0, .int .i64 0, .int .i64 0, .int .i64 0, .int .i64 0] 27)).setRow w3.heap.size (arrv 24 G)) from below_row (B3.out.alloc B3.out.size _) B3.out.size _)
  generalize (w3.alloc (.cells #[.int .i64 0, .int .i64 0, .int .i64 0, .int .i64 0, .int .i64 0, .int .i64 0, .int .i64 0, .int .i64 0, .int .i64 0, .int .i64 0, .int .i64 0, .int .i64 0, .int .i64 0, .int .i64 0, .int .i64 0, .int .i64 0, .int .i64 0, .int .i64 0, .int .i64 0, .int .i64 0, .int .i64 0, .int .i64 0, .int .i64 0, .int .i64 0] 27)).setRow w3.heap.size (arrv 24 G) = W4 at *
  have c7 := P4.cell (i := 7) (by decide)
  have c4 := P4.cell (i := 4) (by decide)
  have c6 := P4.cell (i := 6) (by decide)
  rw [EV.out.1] at c7
  rw [EV.out.2.1] at c4
  rw [EV.out.2.2] at c6
  have fc := F4.cell
  obtain ⟨bc, hbc⟩ : ∃ x, w1.heap.size = x := ⟨_, rfl⟩
  obtain ⟨xb, hxb⟩ : ∃ x, w3.heap.size = x := ⟨_, rfl⟩
  rw [hxb] at c7 c4 c6 ⊢
  rw [hbc] at fc ⊢
  clear P4 F4 F3 B3 hbc hxb
  go_wp2_with fail
  go_ret
  exact ⟨rfl, B4.out⟩
end Go.Proofs.Ytnnjcdbliaecgaa
