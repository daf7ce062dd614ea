/- The walk of ResetKnown. -/
import Derived.Test.YtgfklheepkgedaaQ17
namespace Go.Proofs.Ytgfklheepkgedaa
open Go.RowKit
set_option maxRecDepth 100000
def k26T : Nat → Int := vc3 1125899906842624 0 0
def k26S : Nat → Int := fun i => if i = 0 then 1073741824 else if i = 4 then 549755813888 else 0
def k26D : Nat → Int := fun i => if i = 0 then 1073741824 else if i = 4 then 549755813888 else if i = 10 then 2 else 0
theorem k26_1 : arrv 24 (jpS aw0 4 k26T 3) = arrv 24 k26S ∧ arrv 11 (midF (tdF dl0 2) 4 3 (mvD (keepF aw0) 4 k26T)) = arrv 11 k26D ∧ jpH false aw0 4 k26T 3 = true :=
  ⟨arrv_congr (by decide +kernel), arrv_congr (by decide +kernel), by decide +kernel⟩
theorem k26_2 : arrv 10 (jnR (fun _ _ => 0) 0) = arrv 10 dl0 ∧ jnH false (fun _ _ => 0) 0 = false := ⟨arrv_congr (by decide +kernel), by decide +kernel⟩
open Go in
theorem run_build_v1z {o : Oper} {ev : Operand → Value} {w : World} (x : Operand) (ho : o.op = .build 34 #[(0, x)]) {a : Int} (hx : ev x = .int .i64 a) :
    (execOp ev o).run Try.prog w = .ok (.value (.agg (arrv 3 (vc3 a 0 0)))) w := by
  unfold execOp
  simp only [ho, List.map_toArray, List.map_cons, List.map_nil, hx]
  kernel_rfl
/-- Two flags, an estimate, what is told. -/
structure KnS (bc x : Nat) (q : Nat → Int) (w wr : World) : Prop where
  below : Below w.heap.size w wr
  fl : Flg wr bc true
  s : Blk wr x 27 24 k26S
  t : Blk wr (x + 1 + 1) 38 11 k26D
theorem KnS.down {bc x : Nat} {q : Nat → Int} {w wr w' : World} (s : KnS bc x q w wr) (u : Below wr.heap.size wr w') : KnS bc x q w w' := ⟨s.below.trans (u.mono s.below.size), s.fl.below u, s.s.below u, s.t.below u⟩
set_option maxHeartbeats 16000000 in
theorem known26_walk (w : World) : Calls Try.prog 3 #[] w fun e w' => e = .returned (.bool true) ∧ Below w.heap.size w w' := by
  have C0 := fun (c : Addr) (x : World) (k : x.cell? c = some (.bool false)) (f : x.frozen? c = false) => new_any c false none 0 0 (fun _ => 0) x k f (fun i hi => by omega)
  rw [show newH 0 (fun _ => 0) = false by decide] at C0
  obtain ⟨p0, hp0⟩ : ∃ x, newF 0 (fun _ => 0) = x := ⟨_, rfl⟩
  rw [hp0] at C0
  obtain ⟨q, hq⟩ : ∃ x, stepF p0 (rtF 4 3) (rtQ 4 (fun _ => 1) 3) = x := ⟨_, rfl⟩
  have C1 := fun (c : Addr) (x : World) (k : x.cell? c = some (.bool false)) (f : x.frozen? c = false) => vel_any c false aw0 p0 k26T 1 x k f
  rw [k26_1.1, k26_1.2.1, k26_1.2.2, hq, Bool.true_or, Bool.true_or] at C1
  have C2 := fun (c : Addr) (x : World) (k : x.cell? c = some (.bool false)) (f : x.frozen? c = false) => join_any c false none 0 0 0 0 (fun _ _ => 0) x k f (by decide) (fun h => by omega) (fun i hi => by omega)
  rw [k26_2.1, k26_2.2] at C2
  have K0 := Lib.hid C0
  have K1 := Lib.hid C1
  have K2 := Lib.hid C2
  clear C0 C1 C2 hp0 hq
  go_enter Try.func3, Try.ntmps3
  go_upto_region 3 with (go_at_call 6; (refine (awake26_any _).mono ?_); rintro e w1 ⟨rfl, hb1⟩)
  have B1 := Lib.hid hb1
  clear hb1
  go_upto_region 4 with fail
  have S0 := Lib.hid (show Below w.heap.size w (w1.alloc (.cells #[.bool false] 25)) ∧ Flg (w1.alloc (.cells #[.bool false] 25)) w1.heap.size false from ⟨B1.out.alloc B1.out.size _, Flg.new w1 false⟩)
  have hbc := B1.out.size
  generalize w1.alloc (.cells #[.bool false] 25) = W0 at *
  obtain ⟨bc, hbe⟩ : ∃ x, w1.heap.size = x := ⟨_, rfl⟩
  rw [hbe] at S0 hbc ⊢
  clear hbe B1
  refine wp_region_lit ?_
  refine wpList_val (v := ?_) rfl ?_ ?_
  rotate_left
  · (go_simp; (try (first | with_reducible rfl | (constructor <;> with_reducible rfl))))
  (try simp only [Act.put, nA, nB, nC])
  refine wpList_val (v := ?_) rfl ?_ ?_
  rotate_left
  · (refine Eq.trans (run_build_st0v (.const (.int .i64 1073741824)) (by rfl) (by rfl)) ?_; with_reducible rfl)
  (try simp only [Act.put, nA, nB, nC])
  refine wpList_val (v := ?_) rfl ?_ ?_
  rotate_left
  · (go_simp; (try (first | with_reducible rfl | (constructor <;> with_reducible rfl))))
  (try simp only [Act.put, nA, nB, nC])
  refine wpList_step (fun K hK => ?_)
  go_simp
  (refine (K0.out ⟨bc, 0, none⟩ _ S0.out.2.cell S0.out.2.free).mono ?_); rintro e w2 ⟨rfl, hu⟩; have S1 := Lib.hid (And.intro (own_upd S0.out.1 hbc hu) (S0.out.2.hit hu)); clear hu S0 K0
  (try dsimp only)
  (try simp only [Act.put, nA, nB, nC])
  refine hK _ _ ?_
  clear hK K
  refine wpList_val (v := ?_) rfl ?_ ?_
  rotate_left
  · (refine Eq.trans (run_build_v1z (.const (.int .i64 1125899906842624)) (by rfl) (by rfl)) ?_; with_reducible rfl)
  (try simp only [Act.put, nA, nB, nC])
  refine wpList_step (fun K hK => ?_)
  go_simp
  (refine (K1.out ⟨bc, 0, none⟩ _ S1.out.2.cell S1.out.2.free).mono ?_); rintro e w3 ⟨rfl, hu⟩; have S2 := Lib.hid (And.intro (own_upd S1.out.1 hbc hu) (S1.out.2.hit hu)); clear hu S1 K1; have N := Lib.hid (three_new w3 k26S q k26D)
  (try dsimp only)
  (try simp only [Act.put, nA, nB, nC])
  refine hK _ _ ?_
  clear hK K
  refine wpList_val (v := ?_) rfl ?_ ?_
  rotate_left
  · (go_simp; (try (first | with_reducible rfl | (constructor <;> with_reducible rfl))))
  (try simp only [Act.put, nA, nB, nC])
  refine wpList_val (v := ?_) rfl ?_ ?_
  rotate_left
  · (go_simp; (try (first | with_reducible rfl | (constructor <;> with_reducible rfl))))
  (try simp only [Act.put, nA, nB, nC])
  refine wpList_val (v := ?_) rfl ?_ ?_
  rotate_left
  · (go_simp; (try (first | with_reducible rfl | (constructor <;> with_reducible rfl))))
  (try simp only [Act.put, nA, nB, nC])
  refine wpList_val (v := ?_) rfl ?_ ?_
  rotate_left
  · (go_simp; (try (first | with_reducible rfl | (constructor <;> with_reducible rfl))))
  (try simp only [Act.put, nA, nB, nC])
  refine wpList_act (v := ?_) (w' := ?_) rfl ?_ ?_
  rotate_left 2
  · (go_simp; (try (first | with_reducible rfl | (constructor <;> with_reducible rfl))))
  (try simp only [Act.put, nA, nB, nC])
  refine wpList_act (v := ?_) (w' := ?_) rfl ?_ ?_
  rotate_left 2
  · (go_simp; (try (first | with_reducible rfl | (constructor <;> with_reducible rfl))))
  (try simp only [Act.put, nA, nB, nC])
  refine wpList_act (v := ?_) (w' := ?_) rfl ?_ ?_
  rotate_left 2
  · (go_simp; (try (first | with_reducible rfl | (constructor <;> with_reducible rfl))))
  (try simp only [Act.put, nA, nB, nC])
  refine wpList_done (w' := ?_) rfl ?_ ?_
  rotate_left
  · (refine Eq.trans (run_store_row 27 (.tmp 2) (.tmp 16) (by rfl) (w3.heap.size) (by rfl) (by rfl) N.out.1 (ist.trans rfl)) ?_; with_reducible rfl)
  (try simp only [Act.put, nA, nB, nC])
  refine wpList_done (w' := ?_) rfl ?_ ?_
  rotate_left
  · (refine Eq.trans (run_store_row 30 (.tmp 3) (.tmp 17) (by rfl) (w3.heap.size + 1) (by rfl) (by rfl) N.out.2.1 (icov.trans rfl)) ?_; with_reducible rfl)
  (try simp only [Act.put, nA, nB, nC])
  refine wpList_done (w' := ?_) rfl ?_ ?_
  rotate_left
  · (refine Eq.trans (run_store_row 38 (.tmp 4) (.tmp 18) (by rfl) (w3.heap.size + 1 + 1) (by rfl) (by rfl) N.out.2.2.1 (itd.trans rfl)) ?_; with_reducible rfl)
  (try simp only [Act.put, nA, nB, nC])
  refine wpList_nil ?_
  have S3 : Hid (KnS bc w3.heap.size q w ((((((w3.alloc (.cells #[.int .i64 0, .int .i64 0, .int .i64 0, .int .i64 0, .int .i64 0, .int .i64 0, .int .i64 0, .int .i64 0, .int .i64 0, .int .i64 0, .int .i64 0, .int .i64 0, .int .i64 0, .int .i64 0, .int .i64 0, .int .i64 0, .int .i64 0, .int .i64 0, .int .i64 0, .int .i64 0, .int .i64 0, .int .i64 0, .int .i64 0, .int .i64 0] 27)).alloc (.cells Try.zeroCells30 30)).alloc (.cells #[.int .i64 0, .int .i64 0, .int .i64 0, .int .i64 0, .int .i64 0, .int .i64 0, .int .i64 0, .int .i64 0, .int .i64 0, .int .i64 0, .int .i64 0] 38)).setRow w3.heap.size (arrv 24 k26S)).setRow (w3.heap.size + 1) (arrv 300 q)).setRow (w3.heap.size + 1 + 1) (arrv 11 k26D))) :=
    Lib.hid ⟨S2.out.1.trans (N.out.2.2.2.2.2.2.mono S2.out.1.size), S2.out.2.below N.out.2.2.2.2.2.2, N.out.2.2.2.1, N.out.2.2.2.2.2.1⟩
  generalize (((((w3.alloc (.cells #[.int .i64 0, .int .i64 0, .int .i64 0, .int .i64 0, .int .i64 0, .int .i64 0, .int .i64 0, .int .i64 0, .int .i64 0, .int .i64 0, .int .i64 0, .int .i64 0, .int .i64 0, .int .i64 0, .int .i64 0, .int .i64 0, .int .i64 0, .int .i64 0, .int .i64 0, .int .i64 0, .int .i64 0, .int .i64 0, .int .i64 0, .int .i64 0] 27)).alloc (.cells Try.zeroCells30 30)).alloc (.cells #[.int .i64 0, .int .i64 0, .int .i64 0, .int .i64 0, .int .i64 0, .int .i64 0, .int .i64 0, .int .i64 0, .int .i64 0, .int .i64 0, .int .i64 0] 38)).setRow w3.heap.size (arrv 24 k26S)).setRow (w3.heap.size + 1) (arrv 300 q)).setRow (w3.heap.size + 1 + 1) (arrv 11 k26D) = W3 at *
  obtain ⟨x, hx⟩ : ∃ x, w3.heap.size = x := ⟨_, rfl⟩
  rw [hx] at S3 ⊢
  clear hx N S2
  have c4 := S3.out.s.cell (i := 4) (by decide)
  have t4 := S3.out.t.cell (i := 4) (by decide)
  rw [show k26S 4 = 549755813888 from rfl] at c4
  rw [show k26D 4 = 549755813888 from rfl] at t4
  have fc := S3.out.fl.cell
  have S4 := Lib.hid (show Below w.heap.size w (W3.alloc (.cells #[.bool false] 25)) ∧ Flg (W3.alloc (.cells #[.bool false] 25)) W3.heap.size false from ⟨S3.out.below.alloc S3.out.below.size _, Flg.new W3 false⟩)
  have hzz := S3.out.below.size
  go_upto_region 5 with fail
  refine wp_region_lit ?_
  refine wpList_val (v := ?_) rfl ?_ ?_
  rotate_left
  · (go_simp; (try (first | with_reducible rfl | (constructor <;> with_reducible rfl))))
  (try simp only [Act.put, nA, nB, nC])
  refine wpList_val (v := ?_) rfl ?_ ?_
  rotate_left
  · (go_simp; (try (first | with_reducible rfl | (constructor <;> with_reducible rfl))))
  (try simp only [Act.put, nA, nB, nC])
  refine wpList_val (v := ?_) rfl ?_ ?_
  rotate_left
  · (go_simp; (try (first | with_reducible rfl | (constructor <;> with_reducible rfl))))
  (try simp only [Act.put, nA, nB, nC])
  refine wpList_val (v := ?_) rfl ?_ ?_
  rotate_left
  · (go_simp; (try (first | with_reducible rfl | (constructor <;> with_reducible rfl))))
  (try simp only [Act.put, nA, nB, nC])
  first | (refine wpList_val (v := ?_) (by rfl) ?_ ?_; rotate_left; focus ((go_simp; (try (first | with_reducible rfl | (constructor <;> with_reducible rfl)))))) | refine wpList_skip (by rfl) ?_
  (try simp only [Act.put, nA, nB, nC])
  first | (refine wpList_val (v := ?_) (by rfl) ?_ ?_; rotate_left; focus ((go_simp; (try (first | with_reducible rfl | (constructor <;> with_reducible rfl)))))) | refine wpList_skip (by rfl) ?_
  (try simp only [Act.put, nA, nB, nC])
  first | (refine wpList_val (v := ?_) (by rfl) ?_ ?_; rotate_left; focus ((go_simp; (try (first | with_reducible rfl | (constructor <;> with_reducible rfl)))))) | refine wpList_skip (by rfl) ?_
  (try simp only [Act.put, nA, nB, nC])
  first | (refine wpList_val (v := ?_) (by rfl) ?_ ?_; rotate_left; focus ((go_simp; (try (first | with_reducible rfl | (constructor <;> with_reducible rfl)))))) | refine wpList_skip (by rfl) ?_
  (try simp only [Act.put, nA, nB, nC])
  first | (refine wpList_val (v := ?_) (by rfl) ?_ ?_; rotate_left; focus ((go_simp; (try (first | with_reducible rfl | (constructor <;> with_reducible rfl)))))) | refine wpList_skip (by rfl) ?_
  (try simp only [Act.put, nA, nB, nC])
  refine wpList_val (v := ?_) rfl ?_ ?_
  rotate_left
  · (go_simp; (try (first | with_reducible rfl | (constructor <;> with_reducible rfl))))
  (try simp only [Act.put, nA, nB, nC])
  refine wpList_val (v := ?_) rfl ?_ ?_
  rotate_left
  · (go_simp; (try (first | with_reducible rfl | (constructor <;> with_reducible rfl))))
  (try simp only [Act.put, nA, nB, nC])
  first | (refine wpList_val (v := ?_) (by rfl) ?_ ?_; rotate_left; focus ((go_simp; (try (first | with_reducible rfl | (constructor <;> with_reducible rfl)))))) | refine wpList_skip (by rfl) ?_
  (try simp only [Act.put, nA, nB, nC])
  first | (refine wpList_val (v := ?_) (by rfl) ?_ ?_; rotate_left; focus ((go_simp; (try (first | with_reducible rfl | (constructor <;> with_reducible rfl)))))) | refine wpList_skip (by rfl) ?_
  (try simp only [Act.put, nA, nB, nC])
  first | (refine wpList_val (v := ?_) (by rfl) ?_ ?_; rotate_left; focus ((go_simp; (try (first | with_reducible rfl | (constructor <;> with_reducible rfl)))))) | refine wpList_skip (by rfl) ?_
  (try simp only [Act.put, nA, nB, nC])
  first | (refine wpList_val (v := ?_) (by rfl) ?_ ?_; rotate_left; focus ((go_simp; (try (first | with_reducible rfl | (constructor <;> with_reducible rfl)))))) | refine wpList_skip (by rfl) ?_
  (try simp only [Act.put, nA, nB, nC])
  refine wpList_val (v := ?_) rfl ?_ ?_
  rotate_left
  · (go_simp; (try (first | with_reducible rfl | (constructor <;> with_reducible rfl))))
  (try simp only [Act.put, nA, nB, nC])
  refine wpList_val (v := ?_) rfl ?_ ?_
  rotate_left
  · (go_simp; (try (first | with_reducible rfl | (constructor <;> with_reducible rfl))))
  (try simp only [Act.put, nA, nB, nC])
  first | (refine wpList_val (v := ?_) (by rfl) ?_ ?_; rotate_left; focus ((go_simp; (try (first | with_reducible rfl | (constructor <;> with_reducible rfl)))))) | refine wpList_skip (by rfl) ?_
  (try simp only [Act.put, nA, nB, nC])
  refine wpList_act (v := ?_) (w' := ?_) (by rfl) ?_ ?_
  rotate_left 2
  · (go_simp; (try (first | with_reducible rfl | (constructor <;> with_reducible rfl))))
  (try simp only [Act.put, nA, nB, nC])
  refine wpList_step (fun K hK => ?_)
  go_simp
  (refine (K2.out ⟨W3.heap.size, 0, none⟩ _ S4.out.2.cell S4.out.2.free).mono ?_); rintro e w5 ⟨rfl, hu⟩; have S5 := Lib.hid (own_upd S4.out.1 hzz hu); clear hu S4 K2
  (try dsimp only)
  (try simp only [Act.put, nA, nB, nC])
  refine hK _ _ ?_
  clear hK K
  refine wpList_step (fun K hK => ?_)
  go_simp
  (refine (nothing_any _).mono ?_); rintro e w6 ⟨rfl, hb⟩; have S6 := Lib.hid (Below.after S5.out hb); clear hb S5
  (try dsimp only)
  (try simp only [Act.put, nA, nB, nC])
  refine hK _ _ ?_
  clear hK K
  first | (refine wpList_val (v := ?_) (by rfl) ?_ ?_; rotate_left; focus ((refine Eq.trans (run_op_eqlDl (.tmp 38) (.tmp 39) (by rfl) (by rfl) (by rfl)) ?_; with_reducible rfl))) | refine wpList_skip (by rfl) ?_
  (try simp only [Act.put, nA, nB, nC])
  refine wpList_val (v := ?_) rfl ?_ ?_
  rotate_left
  · (go_simp; (try (first | with_reducible rfl | (constructor <;> with_reducible rfl))))
  (try simp only [Act.put, nA, nB, nC])
  refine wpList_val (v := ?_) rfl ?_ ?_
  rotate_left
  · (go_simp; (try (first | with_reducible rfl | (constructor <;> with_reducible rfl))))
  (try simp only [Act.put, nA, nB, nC])
  refine wpList_nil ?_
  go_wp2_with fail
  go_ret
  exact ⟨rfl, S6.out⟩
end Go.Proofs.Ytgfklheepkgedaa
