/- Contracts of the program's functions and plain laws, part 15: they hold for all arguments. -/
import Derived.Test.YtgfklheepkgedaaGreatQ14
/- Law 26's awake answers true. -/
namespace Go.Proofs.YtgfklheepkgedaaGreat
open Go.RowKit
set_option maxRecDepth 100000
open Go in
theorem run_build_st0v {o : Oper} {ev : Operand → Value} {w : World} (x : Operand) (ho : o.op = .build 23 #[(0, x)]) {a : Int} (hx : ev x = .int .i64 a) :
  (execOp ev o).run Tryz.prog w = .ok (.value (.agg (arrv 24 (fun i => if i = 0 then a else 0)))) w := by
 unfold execOp
 simp only [ho, List.map_toArray, List.map_cons, List.map_nil, hx]
 kernel_rfl
theorem eqB_refl (n : Nat) (f : Nat → Int) : eqB n f f = true := eqB_iff.2 fun _ _ => rfl
/-- The flag (never set), and blocks. -/
structure AwR (bc : Nat) (E : List (Nat × Nat × Nat × (Nat → Int))) (w wr : World) : Prop where
 below : Below w.heap.size w wr
 fl : Flg wr bc false
 bl : w.heap.size ≤ bc
 has : ∀ e, e ∈ E → Blk wr e.1 e.2.1 e.2.2.1 e.2.2.2 ∧ bc < e.1
section
variable {bc : Nat} {E : List (Nat × Nat × Nat × (Nat → Int))} {w wr w' : World}
theorem AwR.down (s : AwR bc E w wr) (u : Below wr.heap.size wr w') : AwR bc E w w' := ⟨s.below.trans (u.mono s.below.size), s.fl.below u, s.bl, fun e he => ⟨(s.has e he).1.below u, (s.has e he).2⟩⟩
theorem AwR.drew (s : AwR bc E w wr) : AwR bc E w wr.drew := s.down (Below.drew (Below.refl _ _))
theorem AwR.upd' (s : AwR bc E w wr) (u : Upd ⟨bc, 0, none⟩ false wr w') : AwR bc E w w' :=
 ⟨own_upd s.below s.bl u, s.fl.hit u, s.bl, fun e he => ⟨(s.has e he).1.upd u (by have := (s.has e he).2; simp only; omega), (s.has e he).2⟩⟩
theorem AwR.put (s : AwR bc E w wr) (u : Below wr.heap.size wr w') {b T n : Nat} {F : Nat → Int} (h : Blk w' b T n F) (hb : wr.heap.size ≤ b) : AwR bc ((b, T, n, F) :: E) w w' := by
 have k := s.down u
 have z := s.fl.lt
 refine ⟨k.below, k.fl, k.bl, fun e he => ?_⟩
 rcases List.mem_cons.1 he with rfl | he
 ·exact ⟨h, by simp only; omega⟩
 ·exact k.has e he
theorem AwR.more (s : AwR bc E w wr) {b T n : Nat} {F : Nat → Int} (h : Blk wr b T n F) (hb : bc < b) : AwR bc ((b, T, n, F) :: E) w wr := by
 refine ⟨s.below, s.fl, s.bl, fun e he => ?_⟩
 rcases List.mem_cons.1 he with rfl | he
 ·exact ⟨h, hb⟩
 ·exact s.has e he
end
theorem aw_start (w : World) : AwR w.heap.size [] w (w.alloc (.cells #[.bool false] 32)) := ⟨by (repeat (first | with_reducible exact Below.refl _ _ | with_reducible apply Below.drew | (with_reducible refine below_drewN ?_ _) | (with_reducible refine Below.alloc ?_ (by (try simp) <;> omega) _) | (with_reducible refine Below.setCell ?_ (by (try simp) <;> omega) _))), Flg.new w false, Nat.le_refl _, fun e he => by cases he⟩
/-- Three new rows: an estimate, factors, what is told. -/
theorem three_new (w : World) (S Q T : Nat → Int) :
  Blk (((w.alloc (.cells #[.int .i64 0, .int .i64 0, .int .i64 0, .int .i64 0, .int .i64 0, .int .i64 0, .int .i64 0, .int .i64 0, .int .i64 0, .int .i64 0, .int .i64 0, .int .i64 0, .int .i64 0, .int .i64 0, .int .i64 0, .int .i64 0, .int .i64 0, .int .i64 0, .int .i64 0, .int .i64 0, .int .i64 0, .int .i64 0, .int .i64 0, .int .i64 0] 23)).alloc (.cells Tryz.zeroCells26 26)).alloc (.cells #[.int .i64 0, .int .i64 0, .int .i64 0, .int .i64 0, .int .i64 0, .int .i64 0, .int .i64 0, .int .i64 0, .int .i64 0, .int .i64 0, .int .i64 0] 42)) w.heap.size 23 24 (fun _ => 0) ∧
  Blk ((((w.alloc (.cells #[.int .i64 0, .int .i64 0, .int .i64 0, .int .i64 0, .int .i64 0, .int .i64 0, .int .i64 0, .int .i64 0, .int .i64 0, .int .i64 0, .int .i64 0, .int .i64 0, .int .i64 0, .int .i64 0, .int .i64 0, .int .i64 0, .int .i64 0, .int .i64 0, .int .i64 0, .int .i64 0, .int .i64 0, .int .i64 0, .int .i64 0, .int .i64 0] 23)).alloc (.cells Tryz.zeroCells26 26)).alloc (.cells #[.int .i64 0, .int .i64 0, .int .i64 0, .int .i64 0, .int .i64 0, .int .i64 0, .int .i64 0, .int .i64 0, .int .i64 0, .int .i64 0, .int .i64 0] 42)).setRow w.heap.size (arrv 24 S)) (w.heap.size + 1) 26 300 (fun _ => 0) ∧
  Blk (((((w.alloc (.cells #[.int .i64 0, .int .i64 0, .int .i64 0, .int .i64 0, .int .i64 0, .int .i64 0, .int .i64 0, .int .i64 0, .int .i64 0, .int .i64 0, .int .i64 0, .int .i64 0, .int .i64 0, .int .i64 0, .int .i64 0, .int .i64 0, .int .i64 0, .int .i64 0, .int .i64 0, .int .i64 0, .int .i64 0, .int .i64 0, .int .i64 0, .int .i64 0] 23)).alloc (.cells Tryz.zeroCells26 26)).alloc (.cells #[.int .i64 0, .int .i64 0, .int .i64 0, .int .i64 0, .int .i64 0, .int .i64 0, .int .i64 0, .int .i64 0, .int .i64 0, .int .i64 0, .int .i64 0] 42)).setRow w.heap.size (arrv 24 S)).setRow (w.heap.size + 1) (arrv 300 Q)) (w.heap.size + 1 + 1) 42 11 (fun _ => 0) ∧
  (Blk ((((((w.alloc (.cells #[.int .i64 0, .int .i64 0, .int .i64 0, .int .i64 0, .int .i64 0, .int .i64 0, .int .i64 0, .int .i64 0, .int .i64 0, .int .i64 0, .int .i64 0, .int .i64 0, .int .i64 0, .int .i64 0, .int .i64 0, .int .i64 0, .int .i64 0, .int .i64 0, .int .i64 0, .int .i64 0, .int .i64 0, .int .i64 0, .int .i64 0, .int .i64 0] 23)).alloc (.cells Tryz.zeroCells26 26)).alloc (.cells #[.int .i64 0, .int .i64 0, .int .i64 0, .int .i64 0, .int .i64 0, .int .i64 0, .int .i64 0, .int .i64 0, .int .i64 0, .int .i64 0, .int .i64 0] 42)).setRow w.heap.size (arrv 24 S)).setRow (w.heap.size + 1) (arrv 300 Q)).setRow (w.heap.size + 1 + 1) (arrv 11 T)) w.heap.size 23 24 S ∧
  Blk ((((((w.alloc (.cells #[.int .i64 0, .int .i64 0, .int .i64 0, .int .i64 0, .int .i64 0, .int .i64 0, .int .i64 0, .int .i64 0, .int .i64 0, .int .i64 0, .int .i64 0, .int .i64 0, .int .i64 0, .int .i64 0, .int .i64 0, .int .i64 0, .int .i64 0, .int .i64 0, .int .i64 0, .int .i64 0, .int .i64 0, .int .i64 0, .int .i64 0, .int .i64 0] 23)).alloc (.cells Tryz.zeroCells26 26)).alloc (.cells #[.int .i64 0, .int .i64 0, .int .i64 0, .int .i64 0, .int .i64 0, .int .i64 0, .int .i64 0, .int .i64 0, .int .i64 0, .int .i64 0, .int .i64 0] 42)).setRow w.heap.size (arrv 24 S)).setRow (w.heap.size + 1) (arrv 300 Q)).setRow (w.heap.size + 1 + 1) (arrv 11 T)) (w.heap.size + 1) 26 300 Q ∧
  Blk ((((((w.alloc (.cells #[.int .i64 0, .int .i64 0, .int .i64 0, .int .i64 0, .int .i64 0, .int .i64 0, .int .i64 0, .int .i64 0, .int .i64 0, .int .i64 0, .int .i64 0, .int .i64 0, .int .i64 0, .int .i64 0, .int .i64 0, .int .i64 0, .int .i64 0, .int .i64 0, .int .i64 0, .int .i64 0, .int .i64 0, .int .i64 0, .int .i64 0, .int .i64 0] 23)).alloc (.cells Tryz.zeroCells26 26)).alloc (.cells #[.int .i64 0, .int .i64 0, .int .i64 0, .int .i64 0, .int .i64 0, .int .i64 0, .int .i64 0, .int .i64 0, .int .i64 0, .int .i64 0, .int .i64 0] 42)).setRow w.heap.size (arrv 24 S)).setRow (w.heap.size + 1) (arrv 300 Q)).setRow (w.heap.size + 1 + 1) (arrv 11 T)) (w.heap.size + 1 + 1) 42 11 T ∧
  Below w.heap.size w ((((((w.alloc (.cells #[.int .i64 0, .int .i64 0, .int .i64 0, .int .i64 0, .int .i64 0, .int .i64 0, .int .i64 0, .int .i64 0, .int .i64 0, .int .i64 0, .int .i64 0, .int .i64 0, .int .i64 0, .int .i64 0, .int .i64 0, .int .i64 0, .int .i64 0, .int .i64 0, .int .i64 0, .int .i64 0, .int .i64 0, .int .i64 0, .int .i64 0, .int .i64 0] 23)).alloc (.cells Tryz.zeroCells26 26)).alloc (.cells #[.int .i64 0, .int .i64 0, .int .i64 0, .int .i64 0, .int .i64 0, .int .i64 0, .int .i64 0, .int .i64 0, .int .i64 0, .int .i64 0, .int .i64 0] 42)).setRow w.heap.size (arrv 24 S)).setRow (w.heap.size + 1) (arrv 300 Q)).setRow (w.heap.size + 1 + 1) (arrv 11 T))) := by
 rw [zvec24, zcov, ztd]
 have a0 : Blk (((w.alloc (.cells (arrv 24 (fun _ => 0)) 23)).alloc (.cells (arrv 300 (fun _ => 0)) 26)).alloc (.cells (arrv 11 (fun _ => 0)) 42)) w.heap.size 23 24 (fun _ => 0) := ((Blk.new w _ _ _).alloc _).alloc _
 have a1 := ((Blk.new1 w (.cells (arrv 24 (fun _ => 0)) 23) 26 300 (fun _ => 0)).alloc (.cells (arrv 11 (fun _ => 0)) 42)).setRow_other (k := w.heap.size) (arrv 24 S) (by omega)
 have a2 := ((blk_new2 w (.cells (arrv 24 (fun _ => 0)) 23) (.cells (arrv 300 (fun _ => 0)) 26) 42 11 (fun _ => 0)).setRow_other (k := w.heap.size) (arrv 24 S) (by omega)).setRow_other (k := w.heap.size + 1) (arrv 300 Q) (by omega)
 refine ⟨a0, a1, a2, ((a0.setRow S).setRow_other _ (by omega)).setRow_other _ (by omega), (a1.setRow Q).setRow_other _ (by omega), a2.setRow T, ?_⟩
 exact below_row (below_row (below_row (by (repeat (first | with_reducible exact Below.refl _ _ | with_reducible apply Below.drew | (with_reducible refine below_drewN ?_ _) | (with_reducible refine Below.alloc ?_ (by (try simp) <;> omega) _) | (with_reducible refine Below.setCell ?_ (by (try simp) <;> omega) _)))) (Nat.le_refl _) _) (by omega) _) (by omega) _
theorem AwR.putC {bc : Nat} {E : List (Nat × Nat × Nat × (Nat → Int))} {w wr : World} (s : AwR bc E w wr) (F : Nat → Int) : AwR bc ((wr.heap.size, 26, 300, F) :: E) w ((wr.alloc (.cells Tryz.zeroCells26 26)).setRow wr.heap.size (arrv 300 F)) :=
 s.put (below_row ((Below.refl _ _).alloc (Nat.le_refl _) _) (Nat.le_refl _) _) (by rw [zcov]; exact (Blk.new _ _ _ _).setRow F) (Nat.le_refl _)
theorem AwR.putD {bc : Nat} {E : List (Nat × Nat × Nat × (Nat → Int))} {w wr : World} (s : AwR bc E w wr) (F : Nat → Int) : AwR bc ((wr.heap.size, 40, 10, F) :: E) w ((wr.alloc (.cells #[.int .i64 0, .int .i64 0, .int .i64 0, .int .i64 0, .int .i64 0, .int .i64 0, .int .i64 0, .int .i64 0, .int .i64 0, .int .i64 0] 40)).setRow wr.heap.size (arrv 10 F)) :=
 s.put (below_row ((Below.refl _ _).alloc (Nat.le_refl _) _) (Nat.le_refl _) _) (by rw [zdl]; exact (Blk.new _ _ _ _).setRow F) (Nat.le_refl _)
theorem AwR.put3 {bc : Nat} {E : List (Nat × Nat × Nat × (Nat → Int))} {w wr : World} (s : AwR bc E w wr) (S Q T : Nat → Int) :
  AwR bc ((wr.heap.size, 23, 24, S) :: (wr.heap.size + 1, 26, 300, Q) :: (wr.heap.size + 1 + 1, 42, 11, T) :: E) w ((((((wr.alloc (.cells #[.int .i64 0, .int .i64 0, .int .i64 0, .int .i64 0, .int .i64 0, .int .i64 0, .int .i64 0, .int .i64 0, .int .i64 0, .int .i64 0, .int .i64 0, .int .i64 0, .int .i64 0, .int .i64 0, .int .i64 0, .int .i64 0, .int .i64 0, .int .i64 0, .int .i64 0, .int .i64 0, .int .i64 0, .int .i64 0, .int .i64 0, .int .i64 0] 23)).alloc (.cells Tryz.zeroCells26 26)).alloc (.cells #[.int .i64 0, .int .i64 0, .int .i64 0, .int .i64 0, .int .i64 0, .int .i64 0, .int .i64 0, .int .i64 0, .int .i64 0, .int .i64 0, .int .i64 0] 42)).setRow wr.heap.size (arrv 24 S)).setRow (wr.heap.size + 1) (arrv 300 Q)).setRow (wr.heap.size + 1 + 1) (arrv 11 T)) := by
 have n := (three_new wr S Q T).2.2.2
 have z := s.fl.lt
 exact ((s.put n.2.2.2 n.2.2.1 (by omega)).more n.2.1 (by omega)).more n.1 (by omega)
set_option maxHeartbeats 32000000 in
theorem awake26_any (w : World) : Calls Tryz.prog 5 #[] w fun e w' => e = .returned (.bool true) ∧ Below w.heap.size w w' := by
 obtain ⟨q, hq, dq, q9, hs, hb⟩ := aw_q1
 have C0 := fun (c : Addr) (p : Option Addr) (x : World) (k : x.cell? c = some (.bool false)) (f : x.frozen? c = false) (l : Slc x p 1 (fun _ => 17592186044416)) => new_any c false p 1 1 (fun _ => 17592186044416) x k f l
 rw [aw_new] at C0
 obtain ⟨p0, hp0⟩ : ∃ x, newF 1 (fun _ => 17592186044416) = x := ⟨_, rfl⟩
 rw [hp0] at hq hs C0
 have C1 := fun (c : Addr) (x : World) (k : x.cell? c = some (.bool false)) (f : x.frozen? c = false) => hgt_any c false aw0 p0 (-1073741824) 9 x k f
 rw [aw_1.1, aw_1.2.1, aw_1.2.2, hq, hs, hb] at C1
 obtain ⟨q2, hq2⟩ : ∃ x, stepF q (rtF 4 3) (rtQ 4 (fun _ => 9) 3) = x := ⟨_, rfl⟩
 obtain ⟨q3, hq3⟩ : ∃ x, stepF q (rtF 7 2) (rtQ 7 (fun _ => 9) 2) = x := ⟨_, rfl⟩
 obtain ⟨q4, hq4⟩ : ∃ x, stepF q (rtF 0 4) (rtQ 0 (fun _ => 9) 4) = x := ⟨_, rfl⟩
 have dd := aw_q2 dq
 have C2 := fun (c : Addr) (x : World) (k : x.cell? c = some (.bool false)) (f : x.frozen? c = false) => vel_any c false aw1 q (vc3 1 2 3) 9 x k f
 rw [aw_2.1, aw_2.2.1, aw_2.2.2, hq2, dd.1.1, dd.1.2] at C2
 have C3 := fun (c : Addr) (x : World) (k : x.cell? c = some (.bool false)) (f : x.frozen? c = false) => hor_any c false aw2 q 4 5 9 x k f
 rw [aw_3.1, aw_3.2.1, aw_3.2.2, hq3, dd.2.1.1, dd.2.1.2] at C3
 have C4 := fun (c : Addr) (x : World) (k : x.cell? c = some (.bool false)) (f : x.frozen? c = false) => yaw_any c false aw3 q 0 9 x k f
 rw [aw_4.1, aw_4.2.1, aw_4.2.2, hq4, dd.2.2.1, dd.2.2.2] at C4
 have C5 := fun (c : Addr) (b : Nat) (x : World) (k : x.cell? c = some (.bool false)) (f : x.frozen? c = false) (l : Blk x b 40 40 (side10 (d4L tw1 tw2 tw3 tw4))) =>
  join_any c false (some ⟨b, 0, none⟩) b 0 4 4 (d4L tw1 tw2 tw3 tw4) x k f (by decide) (fun _ => rfl) (fun i hi j hj => by
   have := l.cell (i := i * 10 + j) (by omega)
   rw [show 0 + i * 10 + j = i * 10 + j by omega, this]
   unfold side10
   rw [show (i * 10 + j) / 10 = i by omega, show (i * 10 + j) % 10 = j by omega])
 rw [aw_5.1, aw_5.2] at C5
 have K0 := Lib.hid C0
 have K1 := Lib.hid C1
 have K2 := Lib.hid C2
 have K3 := Lib.hid C3
 have K4 := Lib.hid C4
 have K5 := Lib.hid C5
 have Q9 := Lib.hid q9
 clear hq dq q9 hs hb hp0 hq2 hq3 hq4 dd C0 C1 C2 C3 C4 C5
 have S0 := Lib.hid (aw_start w)
 go_enter Tryz.func5, Tryz.ntmps5
 go_upto_region 2 with fail
 generalize w.alloc (.cells #[.bool false] 32) = W0 at *
 refine wp_region_lit ?_
 refine tv ?_
 (try simp only [Act.put, nA, nB, nC])
 refine wpList_act (v := ?_) (w' := ?_) rfl ?_ ?_
 rotate_left 2
 ·(go_simp; (try (first | with_reducible rfl | (constructor <;> with_reducible rfl))))
 (try simp only [Act.put, nA, nB, nC])
 refine wpList_step (fun K hK => ?_)
 go_simp
 have HL := Lib.hid (slc_b1 W0 17592186044416); have S1 := Lib.hid (S0.out.down ((Below.refl _ _).alloc (Nat.le_refl _) (.cells #[.int .i64 17592186044416] 2))); (refine (K0.out ⟨w.heap.size, 0, none⟩ _ _ S1.out.fl.cell S1.out.fl.free HL.out).mono ?_); rintro e w1 ⟨rfl, hu⟩; have S2 := Lib.hid (S1.out.upd' hu); clear hu S1 HL K0 S0
 (try dsimp only)
 (try simp only [Act.put, nA, nB, nC])
 refine hK _ _ ?_
 clear hK K
 refine wpList_act (v := ?_) (w' := ?_) rfl ?_ ?_
 rotate_left 2
 ·(go_simp; (try (first | with_reducible rfl | (constructor <;> with_reducible rfl))))
 (try simp only [Act.put, nA, nB, nC])
 refine wpList_done (w' := ?_) rfl ?_ ?_
 rotate_left
 ·(refine Eq.trans (run_store_row 26 (.tmp 2) (.tmp 20) (by rfl) (w1.heap.size) (by rfl) (by rfl) (show Blk (w1.alloc (.cells Tryz.zeroCells26 26)) w1.heap.size 26 300 (fun _ => 0) by rw [zcov]; exact Blk.new _ _ _ _) (icov.trans rfl)) ?_; with_reducible rfl)
 (try simp only [Act.put, nA, nB, nC])
 refine wpList_nil ?_
 have S3 := Lib.hid (S2.out.putC p0)
 generalize (w1.alloc (.cells Tryz.zeroCells26 26)).setRow w1.heap.size (arrv 300 p0) = W3 at *
 obtain ⟨x0, hx0⟩ : ∃ x, w1.heap.size = x := ⟨_, rfl⟩
 rw [hx0] at S3 ⊢
 clear hx0 S2
 go_upto_region 3 with fail
 have P0 := (S3.out.has (x0, 26, 300, p0) (by simp)).1
 refine wp_region_lit ?_
 refine tv ?_
 (try simp only [Act.put, nA, nB, nC])
 refine wpList_val (v := ?_) rfl ?_ ?_
 rotate_left
 ·(refine Eq.trans (run_build_st0v (.const (.int .i64 1073741824)) (by rfl) (by rfl)) ?_; with_reducible rfl)
 (try simp only [Act.put, nA, nB, nC])
 refine wpList_val (v := ?_) rfl ?_ ?_
 rotate_left
 ·refine Eq.trans (run_load_row 26 (.tmp 2) (by rfl) (x0) (by rfl) _ _ _ _ (P0) Tryz.underlying26 rfl (icov.trans (by rw [arrv_size]))) ?_; with_reducible rfl
 (try simp only [Act.put, nA, nB, nC])
 refine wpList_step (fun K hK => ?_)
 go_simp
 (refine (K1.out ⟨w.heap.size, 0, none⟩ _ S3.out.fl.cell S3.out.fl.free).mono ?_); rintro e v1 ⟨rfl, hu⟩; have S4 := Lib.hid (S3.out.upd' hu); clear hu S3; have N := Lib.hid (three_new v1 aw1 q tw1)
 (try dsimp only)
 (try simp only [Act.put, nA, nB, nC])
 refine hK _ _ ?_
 clear hK K
 refine tv ?_
 (try simp only [Act.put, nA, nB, nC])
 refine tv ?_
 (try simp only [Act.put, nA, nB, nC])
 refine tv ?_
 (try simp only [Act.put, nA, nB, nC])
 refine tv ?_
 (try simp only [Act.put, nA, nB, nC])
 refine wpList_act (v := ?_) (w' := ?_) rfl ?_ ?_
 rotate_left 2
 ·(go_simp; (try (first | with_reducible rfl | (constructor <;> with_reducible rfl))))
 (try simp only [Act.put, nA, nB, nC])
 refine wpList_act (v := ?_) (w' := ?_) rfl ?_ ?_
 rotate_left 2
 ·(go_simp; (try (first | with_reducible rfl | (constructor <;> with_reducible rfl))))
 (try simp only [Act.put, nA, nB, nC])
 refine wpList_act (v := ?_) (w' := ?_) rfl ?_ ?_
 rotate_left 2
 ·(go_simp; (try (first | with_reducible rfl | (constructor <;> with_reducible rfl))))
 (try simp only [Act.put, nA, nB, nC])
 refine wpList_done (w' := ?_) rfl ?_ ?_
 rotate_left
 ·(refine Eq.trans (run_store_row 23 (.tmp 3) (.tmp 26) (by rfl) (v1.heap.size) (by rfl) (by rfl) N.out.1 (ist.trans rfl)) ?_; with_reducible rfl)
 (try simp only [Act.put, nA, nB, nC])
 refine wpList_done (w' := ?_) rfl ?_ ?_
 rotate_left
 ·(refine Eq.trans (run_store_row 26 (.tmp 4) (.tmp 27) (by rfl) (v1.heap.size + 1) (by rfl) (by rfl) N.out.2.1 (icov.trans rfl)) ?_; with_reducible rfl)
 (try simp only [Act.put, nA, nB, nC])
 refine wpList_done (w' := ?_) rfl ?_ ?_
 rotate_left
 ·(refine Eq.trans (run_store_row 42 (.tmp 5) (.tmp 28) (by rfl) (v1.heap.size + 1 + 1) (by rfl) (by rfl) N.out.2.2.1 (itd.trans rfl)) ?_; with_reducible rfl)
 (try simp only [Act.put, nA, nB, nC])
 refine wpList_nil ?_
 have S3 := Lib.hid (S4.out.put3 aw1 q tw1)
 clear N S4
 generalize ((((((v1.alloc (.cells #[.int .i64 0, .int .i64 0, .int .i64 0, .int .i64 0, .int .i64 0, .int .i64 0, .int .i64 0, .int .i64 0, .int .i64 0, .int .i64 0, .int .i64 0, .int .i64 0, .int .i64 0, .int .i64 0, .int .i64 0, .int .i64 0, .int .i64 0, .int .i64 0, .int .i64 0, .int .i64 0, .int .i64 0, .int .i64 0, .int .i64 0, .int .i64 0] 23)).alloc (.cells Tryz.zeroCells26 26)).alloc (.cells #[.int .i64 0, .int .i64 0, .int .i64 0, .int .i64 0, .int .i64 0, .int .i64 0, .int .i64 0, .int .i64 0, .int .i64 0, .int .i64 0, .int .i64 0] 42))).setRow v1.heap.size (arrv 24 aw1)).setRow (v1.heap.size + 1) (arrv 300 q)).setRow (v1.heap.size + 1 + 1) (arrv 11 tw1) = W11 at *
 obtain ⟨x1, hx1⟩ : ∃ x, v1.heap.size = x := ⟨_, rfl⟩
 rw [hx1] at S3 ⊢
 clear hx1 P0
 go_upto_region 4 with fail
 have P0 := (S3.out.has (x1, 23, 24, aw1) (by simp)).1
 have P1 := (S3.out.has (x1 + 1, 26, 300, q) (by simp)).1
 refine wp_region_lit ?_
 refine tv ?_
 (try simp only [Act.put, nA, nB, nC])
 refine wpList_val (v := ?_) rfl ?_ ?_
 rotate_left
 ·refine Eq.trans (run_load_row 23 (.tmp 3) (by rfl) (x1) (by rfl) _ _ _ _ (P0) Tryz.underlying23 rfl (ist.trans (by rw [arrv_size]))) ?_; with_reducible rfl
 (try simp only [Act.put, nA, nB, nC])
 refine wpList_val (v := ?_) rfl ?_ ?_
 rotate_left
 ·refine Eq.trans (run_load_row 26 (.tmp 4) (by rfl) (x1 + 1) (by rfl) _ _ _ _ (P1) Tryz.underlying26 rfl (icov.trans (by rw [arrv_size]))) ?_; with_reducible rfl
 (try simp only [Act.put, nA, nB, nC])
 refine wpList_val (v := ?_) rfl ?_ ?_
 rotate_left
 ·(refine Eq.trans (run_build_v3 (.const (.int .i64 1)) (.const (.int .i64 2)) (.const (.int .i64 3)) (by rfl) (by rfl) (by rfl) (by rfl)) ?_; with_reducible rfl)
 (try simp only [Act.put, nA, nB, nC])
 refine wpList_step (fun K hK => ?_)
 go_simp
 (refine (K2.out ⟨w.heap.size, 0, none⟩ _ S3.out.fl.cell S3.out.fl.free).mono ?_); rintro e v2 ⟨rfl, hu⟩; have S4 := Lib.hid (S3.out.upd' hu); clear hu S3; have N := Lib.hid (three_new v2 aw2 q2 tw2)
 (try dsimp only)
 (try simp only [Act.put, nA, nB, nC])
 refine hK _ _ ?_
 clear hK K
 refine tv ?_
 (try simp only [Act.put, nA, nB, nC])
 refine tv ?_
 (try simp only [Act.put, nA, nB, nC])
 refine tv ?_
 (try simp only [Act.put, nA, nB, nC])
 refine tv ?_
 (try simp only [Act.put, nA, nB, nC])
 refine wpList_act (v := ?_) (w' := ?_) rfl ?_ ?_
 rotate_left 2
 ·(go_simp; (try (first | with_reducible rfl | (constructor <;> with_reducible rfl))))
 (try simp only [Act.put, nA, nB, nC])
 refine wpList_act (v := ?_) (w' := ?_) rfl ?_ ?_
 rotate_left 2
 ·(go_simp; (try (first | with_reducible rfl | (constructor <;> with_reducible rfl))))
 (try simp only [Act.put, nA, nB, nC])
 refine wpList_act (v := ?_) (w' := ?_) rfl ?_ ?_
 rotate_left 2
 ·(go_simp; (try (first | with_reducible rfl | (constructor <;> with_reducible rfl))))
 (try simp only [Act.put, nA, nB, nC])
 refine wpList_done (w' := ?_) rfl ?_ ?_
 rotate_left
 ·(refine Eq.trans (run_store_row 23 (.tmp 6) (.tmp 35) (by rfl) (v2.heap.size) (by rfl) (by rfl) N.out.1 (ist.trans rfl)) ?_; with_reducible rfl)
 (try simp only [Act.put, nA, nB, nC])
 refine wpList_done (w' := ?_) rfl ?_ ?_
 rotate_left
 ·(refine Eq.trans (run_store_row 26 (.tmp 7) (.tmp 36) (by rfl) (v2.heap.size + 1) (by rfl) (by rfl) N.out.2.1 (icov.trans rfl)) ?_; with_reducible rfl)
 (try simp only [Act.put, nA, nB, nC])
 refine wpList_done (w' := ?_) rfl ?_ ?_
 rotate_left
 ·(refine Eq.trans (run_store_row 42 (.tmp 8) (.tmp 37) (by rfl) (v2.heap.size + 1 + 1) (by rfl) (by rfl) N.out.2.2.1 (itd.trans rfl)) ?_; with_reducible rfl)
 (try simp only [Act.put, nA, nB, nC])
 refine wpList_nil ?_
 have S3 := Lib.hid (S4.out.put3 aw2 q2 tw2)
 clear N S4
 generalize ((((((v2.alloc (.cells #[.int .i64 0, .int .i64 0, .int .i64 0, .int .i64 0, .int .i64 0, .int .i64 0, .int .i64 0, .int .i64 0, .int .i64 0, .int .i64 0, .int .i64 0, .int .i64 0, .int .i64 0, .int .i64 0, .int .i64 0, .int .i64 0, .int .i64 0, .int .i64 0, .int .i64 0, .int .i64 0, .int .i64 0, .int .i64 0, .int .i64 0, .int .i64 0] 23)).alloc (.cells Tryz.zeroCells26 26)).alloc (.cells #[.int .i64 0, .int .i64 0, .int .i64 0, .int .i64 0, .int .i64 0, .int .i64 0, .int .i64 0, .int .i64 0, .int .i64 0, .int .i64 0, .int .i64 0] 42))).setRow v2.heap.size (arrv 24 aw2)).setRow (v2.heap.size + 1) (arrv 300 q2)).setRow (v2.heap.size + 1 + 1) (arrv 11 tw2) = W12 at *
 obtain ⟨x2, hx2⟩ : ∃ x, v2.heap.size = x := ⟨_, rfl⟩
 rw [hx2] at S3 ⊢
 clear hx2 P0 P1
 go_upto_region 5 with fail
 have P0 := (S3.out.has (x2, 23, 24, aw2) (by simp)).1
 have P1 := (S3.out.has (x1 + 1, 26, 300, q) (by simp)).1
 refine wp_region_lit ?_
 refine tv ?_
 (try simp only [Act.put, nA, nB, nC])
 refine wpList_val (v := ?_) rfl ?_ ?_
 rotate_left
 ·refine Eq.trans (run_load_row 23 (.tmp 6) (by rfl) (x2) (by rfl) _ _ _ _ (P0) Tryz.underlying23 rfl (ist.trans (by rw [arrv_size]))) ?_; with_reducible rfl
 (try simp only [Act.put, nA, nB, nC])
 refine wpList_val (v := ?_) rfl ?_ ?_
 rotate_left
 ·refine Eq.trans (run_load_row 26 (.tmp 4) (by rfl) (x1 + 1) (by rfl) _ _ _ _ (P1) Tryz.underlying26 rfl (icov.trans (by rw [arrv_size]))) ?_; with_reducible rfl
 (try simp only [Act.put, nA, nB, nC])
 refine wpList_step (fun K hK => ?_)
 go_simp
 (refine (K3.out ⟨w.heap.size, 0, none⟩ _ S3.out.fl.cell S3.out.fl.free).mono ?_); rintro e v3 ⟨rfl, hu⟩; have S4 := Lib.hid (S3.out.upd' hu); clear hu S3; have N := Lib.hid (three_new v3 aw3 q3 tw3)
 (try dsimp only)
 (try simp only [Act.put, nA, nB, nC])
 refine hK _ _ ?_
 clear hK K
 refine tv ?_
 (try simp only [Act.put, nA, nB, nC])
 refine tv ?_
 (try simp only [Act.put, nA, nB, nC])
 refine tv ?_
 (try simp only [Act.put, nA, nB, nC])
 refine tv ?_
 (try simp only [Act.put, nA, nB, nC])
 refine wpList_act (v := ?_) (w' := ?_) rfl ?_ ?_
 rotate_left 2
 ·(go_simp; (try (first | with_reducible rfl | (constructor <;> with_reducible rfl))))
 (try simp only [Act.put, nA, nB, nC])
 refine wpList_act (v := ?_) (w' := ?_) rfl ?_ ?_
 rotate_left 2
 ·(go_simp; (try (first | with_reducible rfl | (constructor <;> with_reducible rfl))))
 (try simp only [Act.put, nA, nB, nC])
 refine wpList_act (v := ?_) (w' := ?_) rfl ?_ ?_
 rotate_left 2
 ·(go_simp; (try (first | with_reducible rfl | (constructor <;> with_reducible rfl))))
 (try simp only [Act.put, nA, nB, nC])
 refine wpList_done (w' := ?_) rfl ?_ ?_
 rotate_left
 ·(refine Eq.trans (run_store_row 23 (.tmp 9) (.tmp 43) (by rfl) (v3.heap.size) (by rfl) (by rfl) N.out.1 (ist.trans rfl)) ?_; with_reducible rfl)
 (try simp only [Act.put, nA, nB, nC])
 refine wpList_done (w' := ?_) rfl ?_ ?_
 rotate_left
 ·(refine Eq.trans (run_store_row 26 (.tmp 10) (.tmp 44) (by rfl) (v3.heap.size + 1) (by rfl) (by rfl) N.out.2.1 (icov.trans rfl)) ?_; with_reducible rfl)
 (try simp only [Act.put, nA, nB, nC])
 refine wpList_done (w' := ?_) rfl ?_ ?_
 rotate_left
 ·(refine Eq.trans (run_store_row 42 (.tmp 11) (.tmp 45) (by rfl) (v3.heap.size + 1 + 1) (by rfl) (by rfl) N.out.2.2.1 (itd.trans rfl)) ?_; with_reducible rfl)
 (try simp only [Act.put, nA, nB, nC])
 refine wpList_nil ?_
 have S3 := Lib.hid (S4.out.put3 aw3 q3 tw3)
 clear N S4
 generalize ((((((v3.alloc (.cells #[.int .i64 0, .int .i64 0, .int .i64 0, .int .i64 0, .int .i64 0, .int .i64 0, .int .i64 0, .int .i64 0, .int .i64 0, .int .i64 0, .int .i64 0, .int .i64 0, .int .i64 0, .int .i64 0, .int .i64 0, .int .i64 0, .int .i64 0, .int .i64 0, .int .i64 0, .int .i64 0, .int .i64 0, .int .i64 0, .int .i64 0, .int .i64 0] 23)).alloc (.cells Tryz.zeroCells26 26)).alloc (.cells #[.int .i64 0, .int .i64 0, .int .i64 0, .int .i64 0, .int .i64 0, .int .i64 0, .int .i64 0, .int .i64 0, .int .i64 0, .int .i64 0, .int .i64 0] 42))).setRow v3.heap.size (arrv 24 aw3)).setRow (v3.heap.size + 1) (arrv 300 q3)).setRow (v3.heap.size + 1 + 1) (arrv 11 tw3) = W13 at *
 obtain ⟨x3, hx3⟩ : ∃ x, v3.heap.size = x := ⟨_, rfl⟩
 rw [hx3] at S3 ⊢
 clear hx3 P0 P1
 go_upto_region 6 with fail
 have P0 := (S3.out.has (x3, 23, 24, aw3) (by simp)).1
 have P1 := (S3.out.has (x1 + 1, 26, 300, q) (by simp)).1
 refine wp_region_lit ?_
 refine tv ?_
 (try simp only [Act.put, nA, nB, nC])
 refine wpList_val (v := ?_) rfl ?_ ?_
 rotate_left
 ·refine Eq.trans (run_load_row 23 (.tmp 9) (by rfl) (x3) (by rfl) _ _ _ _ (P0) Tryz.underlying23 rfl (ist.trans (by rw [arrv_size]))) ?_; with_reducible rfl
 (try simp only [Act.put, nA, nB, nC])
 refine wpList_val (v := ?_) rfl ?_ ?_
 rotate_left
 ·refine Eq.trans (run_load_row 26 (.tmp 4) (by rfl) (x1 + 1) (by rfl) _ _ _ _ (P1) Tryz.underlying26 rfl (icov.trans (by rw [arrv_size]))) ?_; with_reducible rfl
 (try simp only [Act.put, nA, nB, nC])
 refine wpList_step (fun K hK => ?_)
 go_simp
 (refine (K4.out ⟨w.heap.size, 0, none⟩ _ S3.out.fl.cell S3.out.fl.free).mono ?_); rintro e v4 ⟨rfl, hu⟩; have S4 := Lib.hid (S3.out.upd' hu); clear hu S3; have N := Lib.hid (three_new v4 aw3 q4 tw4)
 (try dsimp only)
 (try simp only [Act.put, nA, nB, nC])
 refine hK _ _ ?_
 clear hK K
 refine tv ?_
 (try simp only [Act.put, nA, nB, nC])
 refine tv ?_
 (try simp only [Act.put, nA, nB, nC])
 refine tv ?_
 (try simp only [Act.put, nA, nB, nC])
 refine tv ?_
 (try simp only [Act.put, nA, nB, nC])
 refine wpList_act (v := ?_) (w' := ?_) rfl ?_ ?_
 rotate_left 2
 ·(go_simp; (try (first | with_reducible rfl | (constructor <;> with_reducible rfl))))
 (try simp only [Act.put, nA, nB, nC])
 refine wpList_act (v := ?_) (w' := ?_) rfl ?_ ?_
 rotate_left 2
 ·(go_simp; (try (first | with_reducible rfl | (constructor <;> with_reducible rfl))))
 (try simp only [Act.put, nA, nB, nC])
 refine wpList_act (v := ?_) (w' := ?_) rfl ?_ ?_
 rotate_left 2
 ·(go_simp; (try (first | with_reducible rfl | (constructor <;> with_reducible rfl))))
 (try simp only [Act.put, nA, nB, nC])
 refine wpList_done (w' := ?_) rfl ?_ ?_
 rotate_left
 ·(refine Eq.trans (run_store_row 23 (.tmp 12) (.tmp 51) (by rfl) (v4.heap.size) (by rfl) (by rfl) N.out.1 (ist.trans rfl)) ?_; with_reducible rfl)
 (try simp only [Act.put, nA, nB, nC])
 refine wpList_done (w' := ?_) rfl ?_ ?_
 rotate_left
 ·(refine Eq.trans (run_store_row 26 (.tmp 13) (.tmp 52) (by rfl) (v4.heap.size + 1) (by rfl) (by rfl) N.out.2.1 (icov.trans rfl)) ?_; with_reducible rfl)
 (try simp only [Act.put, nA, nB, nC])
 refine wpList_done (w' := ?_) rfl ?_ ?_
 rotate_left
 ·(refine Eq.trans (run_store_row 42 (.tmp 14) (.tmp 53) (by rfl) (v4.heap.size + 1 + 1) (by rfl) (by rfl) N.out.2.2.1 (itd.trans rfl)) ?_; with_reducible rfl)
 (try simp only [Act.put, nA, nB, nC])
 refine wpList_nil ?_
 have S3 := Lib.hid (S4.out.put3 aw3 q4 tw4)
 clear N S4
 generalize ((((((v4.alloc (.cells #[.int .i64 0, .int .i64 0, .int .i64 0, .int .i64 0, .int .i64 0, .int .i64 0, .int .i64 0, .int .i64 0, .int .i64 0, .int .i64 0, .int .i64 0, .int .i64 0, .int .i64 0, .int .i64 0, .int .i64 0, .int .i64 0, .int .i64 0, .int .i64 0, .int .i64 0, .int .i64 0, .int .i64 0, .int .i64 0, .int .i64 0, .int .i64 0] 23)).alloc (.cells Tryz.zeroCells26 26)).alloc (.cells #[.int .i64 0, .int .i64 0, .int .i64 0, .int .i64 0, .int .i64 0, .int .i64 0, .int .i64 0, .int .i64 0, .int .i64 0, .int .i64 0, .int .i64 0] 42))).setRow v4.heap.size (arrv 24 aw3)).setRow (v4.heap.size + 1) (arrv 300 q4)).setRow (v4.heap.size + 1 + 1) (arrv 11 tw4) = W14 at *
 obtain ⟨x4, hx4⟩ : ∃ x, v4.heap.size = x := ⟨_, rfl⟩
 rw [hx4] at S3 ⊢
 clear hx4 P0 P1
 go_upto_region 7 with fail
 have T1 : Blk W14 (x1 + 1 + 1) 42 11 tw1 := (S3.out.has (x1 + 1 + 1, 42, 11, tw1) (by simp)).1
 have T2 : Blk W14 (x2 + 1 + 1) 42 11 tw2 := (S3.out.has (x2 + 1 + 1, 42, 11, tw2) (by simp)).1
 have T3 : Blk W14 (x3 + 1 + 1) 42 11 tw3 := (S3.out.has (x3 + 1 + 1, 42, 11, tw3) (by simp)).1
 have T4 : Blk W14 (x4 + 1 + 1) 42 11 tw4 := (S3.out.has (x4 + 1 + 1, 42, 11, tw4) (by simp)).1
 refine wp_region_lit ?_
 refine tv ?_
 (try simp only [Act.put, nA, nB, nC])
 refine tv ?_
 (try simp only [Act.put, nA, nB, nC])
 refine wpList_val (v := ?_) rfl ?_ ?_
 rotate_left
 ·(refine Eq.trans (run_load_sub 40 (.tmp 55) (by rfl) (x1 + 1 + 1) 0 10 (by rfl) T1 (by decide) _ Tryz.underlying40 rfl idl) ?_; rw [show arrv 10 (fun i => tw1 (0 + i)) = arrv 10 tw1 from arrv_congr (by decide)])
 (try simp only [Act.put, nA, nB, nC])
 refine tv ?_
 (try simp only [Act.put, nA, nB, nC])
 refine wpList_val (v := ?_) rfl ?_ ?_
 rotate_left
 ·(refine Eq.trans (run_load_sub 40 (.tmp 57) (by rfl) (x2 + 1 + 1) 0 10 (by rfl) T2 (by decide) _ Tryz.underlying40 rfl idl) ?_; rw [show arrv 10 (fun i => tw2 (0 + i)) = arrv 10 tw2 from arrv_congr (by decide)])
 (try simp only [Act.put, nA, nB, nC])
 refine tv ?_
 (try simp only [Act.put, nA, nB, nC])
 refine wpList_val (v := ?_) rfl ?_ ?_
 rotate_left
 ·(refine Eq.trans (run_load_sub 40 (.tmp 59) (by rfl) (x3 + 1 + 1) 0 10 (by rfl) T3 (by decide) _ Tryz.underlying40 rfl idl) ?_; rw [show arrv 10 (fun i => tw3 (0 + i)) = arrv 10 tw3 from arrv_congr (by decide)])
 (try simp only [Act.put, nA, nB, nC])
 refine tv ?_
 (try simp only [Act.put, nA, nB, nC])
 refine wpList_val (v := ?_) rfl ?_ ?_
 rotate_left
 ·(refine Eq.trans (run_load_sub 40 (.tmp 61) (by rfl) (x4 + 1 + 1) 0 10 (by rfl) T4 (by decide) _ Tryz.underlying40 rfl idl) ?_; rw [show arrv 10 (fun i => tw4 (0 + i)) = arrv 10 tw4 from arrv_congr (by decide)])
 (try simp only [Act.put, nA, nB, nC])
 (refine wpList_bsld4 rfl (.tmp 56) (.tmp 58) (.tmp 60) (.tmp 62) rfl rfl rfl rfl rfl ?_); have S4 := Lib.hid (S3.out.down ((Below.refl _ _).alloc (Nat.le_refl _) (.cells (arrv 40 (side10 (d4L tw1 tw2 tw3 tw4))) 40))); have HL := Lib.hid (Blk.new W14 40 40 (side10 (d4L tw1 tw2 tw3 tw4))); clear S3 T1 T2 T3 T4
 refine wpList_step (fun K hK => ?_)
 go_simp
 (refine (K5.out ⟨w.heap.size, 0, none⟩ _ _ S4.out.fl.cell S4.out.fl.free HL.out).mono ?_); rintro e v5 ⟨rfl, hu⟩; have S5 := Lib.hid (S4.out.upd' hu); clear hu S4 HL
 (try dsimp only)
 (try simp only [Act.put, nA, nB, nC])
 refine hK _ _ ?_
 clear hK K
 refine wpList_act (v := ?_) (w' := ?_) rfl ?_ ?_
 rotate_left 2
 ·(go_simp; (try (first | with_reducible rfl | (constructor <;> with_reducible rfl))))
 (try simp only [Act.put, nA, nB, nC])
 refine wpList_done (w' := ?_) rfl ?_ ?_
 rotate_left
 ·(refine Eq.trans (run_store_row 40 (.tmp 15) (.tmp 64) (by rfl) (v5.heap.size) (by rfl) (by rfl) (show Blk (v5.alloc (.cells #[.int .i64 0, .int .i64 0, .int .i64 0, .int .i64 0, .int .i64 0, .int .i64 0, .int .i64 0, .int .i64 0, .int .i64 0, .int .i64 0] 40)) v5.heap.size 40 10 (fun _ => 0) by rw [zdl]; exact Blk.new _ _ _ _) (idl.trans rfl)) ?_; with_reducible rfl)
 (try simp only [Act.put, nA, nB, nC])
 refine wpList_nil ?_
 have S3 := Lib.hid (S5.out.putD jw)
 generalize (v5.alloc (.cells #[.int .i64 0, .int .i64 0, .int .i64 0, .int .i64 0, .int .i64 0, .int .i64 0, .int .i64 0, .int .i64 0, .int .i64 0, .int .i64 0] 40)).setRow v5.heap.size (arrv 10 jw) = W15 at *
 obtain ⟨x5, hx5⟩ : ∃ x, v5.heap.size = x := ⟨_, rfl⟩
 rw [hx5] at S3 ⊢
 clear hx5 S5
 go_upto_region 8 with fail
 have HS := Lib.hid S3.out.drew
 clear S3
 have HE := Lib.hid (And.intro (eqB_refl 24 aw3) (And.intro (eqB_refl 4 oneQ) (And.intro (eqB_refl 3 (vc3 0 0 (-1073741824))) (And.intro (eqB_refl 3 (vc3 1 2 3)) (eqB_refl 3 (vc3 4 5 (-1073741824)))))))
 have ED := Lib.hid (show arrv 10 (fun i => if i < 4 then oneQ i else 0) = arrv 10 dl0 from arrv_congr (by decide))

 refine wp_region_M (fun w' => Blk w' (x1 + 1 + 1) 42 11 tw1 ∧ Blk w' (x1 + 1) 26 300 q ∧ Blk w' (x1) 23 24 aw1 ∧ Blk w' (x2 + 1 + 1) 42 11 tw2 ∧ Blk w' (x3 + 1 + 1) 42 11 tw3 ∧ Blk w' (x3) 23 24 aw3 ∧ Blk w' (x4 + 1 + 1) 42 11 tw4 ∧ Blk w' (x4) 23 24 aw3 ∧ Blk w' (x5) 40 10 jw ∧ w'.cell? ⟨w.heap.size, 0, none⟩ = some (.bool false)) 87 (by kernel_rfl) ?_ (fun hHeld => ?_)
 ·exact ⟨(HS.out.has (x1 + 1 + 1, 42, 11, tw1) (by simp)).1, (HS.out.has (x1 + 1, 26, 300, q) (by simp)).1, (HS.out.has (x1, 23, 24, aw1) (by simp)).1, (HS.out.has (x2 + 1 + 1, 42, 11, tw2) (by simp)).1, (HS.out.has (x3 + 1 + 1, 42, 11, tw3) (by simp)).1, (HS.out.has (x3, 23, 24, aw3) (by simp)).1, (HS.out.has (x4 + 1 + 1, 42, 11, tw4) (by simp)).1, (HS.out.has (x4, 23, 24, aw3) (by simp)).1, (HS.out.has (x5, 40, 10, jw) (by simp)).1, HS.out.fl.cell⟩
 refine tk 0 ?_
 (try simp only [Act.put, nA, nB, nC])
 refine tk 1 ?_
 (try simp only [Act.put, nA, nB, nC])
 refine tl 2 (v := ?_) ?_ ?_
 rotate_left
 ·(intro wx hSw; refine Eq.trans (run_load_sub 28 (.tmp 66) (by rfl) (x1 + 1 + 1) 7 3 (by rfl) hSw.1 (by decide) _ Tryz.underlying28 rfl iv3) ?_; rw [show arrv 3 (fun i => tw1 (7 + i)) = arrv 3 (vc3 0 0 (-1073741824)) from arrv_congr (by decide)])
 (try simp only [Act.put, nA, nB, nC])
 refine tl 3 (v := ?_) ?_ ?_
 rotate_left
 ·(intro wx hSw; refine Eq.trans (run_build_v3 (.const (.int .i64 0)) (.const (.int .i64 0)) (.const (.int .i64 (-1073741824))) (by rfl) (by rfl) (by rfl) (by rfl)) ?_; with_reducible rfl)
 (try simp only [Act.put, nA, nB, nC])
 refine tl 4 (v := ?_) ?_ ?_
 rotate_left
 ·(intro wx hSw; refine Eq.trans (run_op_eqlVec Tryz.underlying28 (by kernel_rfl) (.tmp 67) (.tmp 68) (by rfl) (by rfl) (by rfl) HE.out.2.2.1) ?_; with_reducible rfl)
 (try simp only [Act.put, nA, nB, nC])
 refine tk 5 ?_
 (try simp only [Act.put, nA, nB, nC])
 first | (refine tl 6 (v := ?_) ?_ ?_; rotate_left; focus ((intro wx hSw; (try dsimp only at hSw); go_simp; (try with_reducible rfl)))) | (refine wpAnyM_take 6 rfl (by kernel_rfl) (fun _ _ _ h => h) (Or.inr ⟨by rfl, rfl⟩) (by assumption) ?_)
 (try simp only [Act.put, nA, nB, nC])
 first | (refine tl 7 (v := ?_) ?_ ?_; rotate_left; focus ((intro wx hSw; have h0 := hSw.1.cell (i := 10) (by decide); rw [show tw1 10 = 4 from rfl] at h0; go_simp; (try with_reducible rfl)))) | (refine wpAnyM_take 7 rfl (by kernel_rfl) (fun _ _ _ h => h) (Or.inr ⟨by rfl, rfl⟩) (by assumption) ?_)
 (try simp only [Act.put, nA, nB, nC])
 first | (refine tl 8 (v := ?_) ?_ ?_; rotate_left; focus ((intro wx hSw; (try dsimp only at hSw); go_simp; (try with_reducible rfl)))) | (refine wpAnyM_take 8 rfl (by kernel_rfl) (fun _ _ _ h => h) (Or.inr ⟨by rfl, rfl⟩) (by assumption) ?_)
 (try simp only [Act.put, nA, nB, nC])
 refine tk 9 ?_
 (try simp only [Act.put, nA, nB, nC])
 refine tk 10 ?_
 (try simp only [Act.put, nA, nB, nC])
 first | (refine tl 11 (v := ?_) ?_ ?_; rotate_left; focus ((intro wx hSw; (try dsimp only at hSw); go_simp; (try with_reducible rfl)))) | (refine wpAnyM_take 11 rfl (by kernel_rfl) (fun _ _ _ h => h) (Or.inr ⟨by rfl, rfl⟩) (by assumption) ?_)
 (try simp only [Act.put, nA, nB, nC])
 first | (refine tl 12 (v := ?_) ?_ ?_; rotate_left; focus ((intro wx hSw; (try dsimp only at hSw); go_simp; (try with_reducible rfl)))) | (refine wpAnyM_take 12 rfl (by kernel_rfl) (fun _ _ _ h => h) (Or.inr ⟨by rfl, rfl⟩) (by assumption) ?_)
 (try simp only [Act.put, nA, nB, nC])
 first | (refine tl 13 (v := ?_) ?_ ?_; rotate_left; focus ((intro wx hSw; have h0 := hSw.2.1.cell (i := 276 + 9) (by decide); rw [Q9.out] at h0; go_simp; (try with_reducible rfl)))) | (refine wpAnyM_take 13 rfl (by kernel_rfl) (fun _ _ _ h => h) (Or.inr ⟨by rfl, rfl⟩) (by assumption) ?_)
 (try simp only [Act.put, nA, nB, nC])
 first | (refine tl 14 (v := ?_) ?_ ?_; rotate_left; focus ((intro wx hSw; (try dsimp only at hSw); go_simp; (try with_reducible rfl)))) | (refine wpAnyM_take 14 rfl (by kernel_rfl) (fun _ _ _ h => h) (Or.inr ⟨by rfl, rfl⟩) (by assumption) ?_)
 (try simp only [Act.put, nA, nB, nC])
 refine tk 15 ?_
 (try simp only [Act.put, nA, nB, nC])
 refine tk 16 ?_
 (try simp only [Act.put, nA, nB, nC])
 first | (refine tl 17 (v := ?_) ?_ ?_; rotate_left; focus ((intro wx hSw; (try dsimp only at hSw); go_simp; (try with_reducible rfl)))) | (refine wpAnyM_take 17 rfl (by kernel_rfl) (fun _ _ _ h => h) (Or.inr ⟨by rfl, rfl⟩) (by assumption) ?_)
 (try simp only [Act.put, nA, nB, nC])
 first | (refine tl 18 (v := ?_) ?_ ?_; rotate_left; focus ((intro wx hSw; have h0 := hSw.2.2.1.cell (i := 9) (by decide); rw [show aw1 9 = -1073741824 from rfl] at h0; go_simp; (try with_reducible rfl)))) | (refine wpAnyM_take 18 rfl (by kernel_rfl) (fun _ _ _ h => h) (Or.inr ⟨by rfl, rfl⟩) (by assumption) ?_)
 (try simp only [Act.put, nA, nB, nC])
 first | (refine tl 19 (v := ?_) ?_ ?_; rotate_left; focus ((intro wx hSw; (try dsimp only at hSw); go_simp; (try with_reducible rfl)))) | (refine wpAnyM_take 19 rfl (by kernel_rfl) (fun _ _ _ h => h) (Or.inr ⟨by rfl, rfl⟩) (by assumption) ?_)
 (try simp only [Act.put, nA, nB, nC])
 refine tk 20 ?_
 (try simp only [Act.put, nA, nB, nC])
 refine tk 21 ?_
 (try simp only [Act.put, nA, nB, nC])
 first | (refine tl 22 (v := ?_) ?_ ?_; rotate_left; focus ((intro wx hSw; (try dsimp only at hSw); go_simp; (try with_reducible rfl)))) | (refine wpAnyM_take 22 rfl (by kernel_rfl) (fun _ _ _ h => h) (Or.inr ⟨by rfl, rfl⟩) (by assumption) ?_)
 (try simp only [Act.put, nA, nB, nC])
 first | (refine tl 23 (v := ?_) ?_ ?_; rotate_left; focus ((intro wx hSw; (try dsimp only at hSw); go_simp; (try with_reducible rfl)))) | (refine wpAnyM_take 23 rfl (by kernel_rfl) (fun _ _ _ h => h) (Or.inr ⟨by rfl, rfl⟩) (by assumption) ?_)
 (try simp only [Act.put, nA, nB, nC])
 first | (refine tl 24 (v := ?_) ?_ ?_; rotate_left; focus ((intro wx hSw; refine Eq.trans (run_load_sub 28 (.tmp 88) (by rfl) (x2 + 1 + 1) 4 3 (by rfl) hSw.2.2.2.1 (by decide) _ Tryz.underlying28 rfl iv3) ?_; rw [show arrv 3 (fun i => tw2 (4 + i)) = arrv 3 (vc3 1 2 3) from arrv_congr (by decide)]))) | (refine wpAnyM_take 24 rfl (by kernel_rfl) (fun _ _ _ h => h) (Or.inr ⟨by rfl, rfl⟩) (by assumption) ?_)
 (try simp only [Act.put, nA, nB, nC])
 first | (refine tl 25 (v := ?_) ?_ ?_; rotate_left; focus ((intro wx hSw; refine Eq.trans (run_build_v3 (.const (.int .i64 1)) (.const (.int .i64 2)) (.const (.int .i64 3)) (by rfl) (by rfl) (by rfl) (by rfl)) ?_; with_reducible rfl))) | (refine wpAnyM_take 25 rfl (by kernel_rfl) (fun _ _ _ h => h) (Or.inr ⟨by rfl, rfl⟩) (by assumption) ?_)
 (try simp only [Act.put, nA, nB, nC])
 first | (refine tl 26 (v := ?_) ?_ ?_; rotate_left; focus ((intro wx hSw; refine Eq.trans (run_op_eqlVec Tryz.underlying28 (by kernel_rfl) (.tmp 89) (.tmp 90) (by rfl) (by rfl) (by rfl) HE.out.2.2.2.1) ?_; with_reducible rfl))) | (refine wpAnyM_take 26 rfl (by kernel_rfl) (fun _ _ _ h => h) (Or.inr ⟨by rfl, rfl⟩) (by assumption) ?_)
 (try simp only [Act.put, nA, nB, nC])
 refine tk 27 ?_
 (try simp only [Act.put, nA, nB, nC])
 refine tk 28 ?_
 (try simp only [Act.put, nA, nB, nC])
 first | (refine tl 29 (v := ?_) ?_ ?_; rotate_left; focus ((intro wx hSw; (try dsimp only at hSw); go_simp; (try with_reducible rfl)))) | (refine wpAnyM_take 29 rfl (by kernel_rfl) (fun _ _ _ h => h) (Or.inr ⟨by rfl, rfl⟩) (by assumption) ?_)
 (try simp only [Act.put, nA, nB, nC])
 first | (refine tl 30 (v := ?_) ?_ ?_; rotate_left; focus ((intro wx hSw; have h0 := hSw.2.2.2.1.cell (i := 10) (by decide); rw [show tw2 10 = 2 from rfl] at h0; go_simp; (try with_reducible rfl)))) | (refine wpAnyM_take 30 rfl (by kernel_rfl) (fun _ _ _ h => h) (Or.inr ⟨by rfl, rfl⟩) (by assumption) ?_)
 (try simp only [Act.put, nA, nB, nC])
 first | (refine tl 31 (v := ?_) ?_ ?_; rotate_left; focus ((intro wx hSw; (try dsimp only at hSw); go_simp; (try with_reducible rfl)))) | (refine wpAnyM_take 31 rfl (by kernel_rfl) (fun _ _ _ h => h) (Or.inr ⟨by rfl, rfl⟩) (by assumption) ?_)
 (try simp only [Act.put, nA, nB, nC])
 refine tk 32 ?_
 (try simp only [Act.put, nA, nB, nC])
 refine tk 33 ?_
 (try simp only [Act.put, nA, nB, nC])
 first | (refine tl 34 (v := ?_) ?_ ?_; rotate_left; focus ((intro wx hSw; (try dsimp only at hSw); go_simp; (try with_reducible rfl)))) | (refine wpAnyM_take 34 rfl (by kernel_rfl) (fun _ _ _ h => h) (Or.inr ⟨by rfl, rfl⟩) (by assumption) ?_)
 (try simp only [Act.put, nA, nB, nC])
 first | (refine tl 35 (v := ?_) ?_ ?_; rotate_left; focus ((intro wx hSw; have h0 := hSw.2.2.2.2.1.cell (i := 10) (by decide); rw [show tw3 10 = 3 from rfl] at h0; go_simp; (try with_reducible rfl)))) | (refine wpAnyM_take 35 rfl (by kernel_rfl) (fun _ _ _ h => h) (Or.inr ⟨by rfl, rfl⟩) (by assumption) ?_)
 (try simp only [Act.put, nA, nB, nC])
 first | (refine tl 36 (v := ?_) ?_ ?_; rotate_left; focus ((intro wx hSw; (try dsimp only at hSw); go_simp; (try with_reducible rfl)))) | (refine wpAnyM_take 36 rfl (by kernel_rfl) (fun _ _ _ h => h) (Or.inr ⟨by rfl, rfl⟩) (by assumption) ?_)
 (try simp only [Act.put, nA, nB, nC])
 refine tk 37 ?_
 (try simp only [Act.put, nA, nB, nC])
 refine tk 38 ?_
 (try simp only [Act.put, nA, nB, nC])
 first | (refine tl 39 (v := ?_) ?_ ?_; rotate_left; focus ((intro wx hSw; (try dsimp only at hSw); go_simp; (try with_reducible rfl)))) | (refine wpAnyM_take 39 rfl (by kernel_rfl) (fun _ _ _ h => h) (Or.inr ⟨by rfl, rfl⟩) (by assumption) ?_)
 (try simp only [Act.put, nA, nB, nC])
 first | (refine tl 40 (v := ?_) ?_ ?_; rotate_left; focus ((intro wx hSw; have h0 := hSw.2.2.2.2.2.1.cell (i := 7) (by decide); rw [show aw3 7 = 4 from rfl] at h0; go_simp; (try with_reducible rfl)))) | (refine wpAnyM_take 40 rfl (by kernel_rfl) (fun _ _ _ h => h) (Or.inr ⟨by rfl, rfl⟩) (by assumption) ?_)
 (try simp only [Act.put, nA, nB, nC])
 first | (refine tl 41 (v := ?_) ?_ ?_; rotate_left; focus ((intro wx hSw; (try dsimp only at hSw); go_simp; (try with_reducible rfl)))) | (refine wpAnyM_take 41 rfl (by kernel_rfl) (fun _ _ _ h => h) (Or.inr ⟨by rfl, rfl⟩) (by assumption) ?_)
 (try simp only [Act.put, nA, nB, nC])
 refine tk 42 ?_
 (try simp only [Act.put, nA, nB, nC])
 refine tk 43 ?_
 (try simp only [Act.put, nA, nB, nC])
 first | (refine tl 44 (v := ?_) ?_ ?_; rotate_left; focus ((intro wx hSw; (try dsimp only at hSw); go_simp; (try with_reducible rfl)))) | (refine wpAnyM_take 44 rfl (by kernel_rfl) (fun _ _ _ h => h) (Or.inr ⟨by rfl, rfl⟩) (by assumption) ?_)
 (try simp only [Act.put, nA, nB, nC])
 first | (refine tl 45 (v := ?_) ?_ ?_; rotate_left; focus ((intro wx hSw; have h0 := hSw.2.2.2.2.2.2.1.cell (i := 10) (by decide); rw [show tw4 10 = 1 from rfl] at h0; go_simp; (try with_reducible rfl)))) | (refine wpAnyM_take 45 rfl (by kernel_rfl) (fun _ _ _ h => h) (Or.inr ⟨by rfl, rfl⟩) (by assumption) ?_)
 (try simp only [Act.put, nA, nB, nC])
 first | (refine tl 46 (v := ?_) ?_ ?_; rotate_left; focus ((intro wx hSw; (try dsimp only at hSw); go_simp; (try with_reducible rfl)))) | (refine wpAnyM_take 46 rfl (by kernel_rfl) (fun _ _ _ h => h) (Or.inr ⟨by rfl, rfl⟩) (by assumption) ?_)
 (try simp only [Act.put, nA, nB, nC])
 refine tk 47 ?_
 (try simp only [Act.put, nA, nB, nC])
 refine tk 48 ?_
 (try simp only [Act.put, nA, nB, nC])
 first | (refine tl 49 (v := ?_) ?_ ?_; rotate_left; focus ((intro wx hSw; (try dsimp only at hSw); go_simp; (try with_reducible rfl)))) | (refine wpAnyM_take 49 rfl (by kernel_rfl) (fun _ _ _ h => h) (Or.inr ⟨by rfl, rfl⟩) (by assumption) ?_)
 (try simp only [Act.put, nA, nB, nC])
 first | (refine tl 50 (v := ?_) ?_ ?_; rotate_left; focus ((intro wx hSw; (try dsimp only at hSw); go_simp; (try with_reducible rfl)))) | (refine wpAnyM_take 50 rfl (by kernel_rfl) (fun _ _ _ h => h) (Or.inr ⟨by rfl, rfl⟩) (by assumption) ?_)
 (try simp only [Act.put, nA, nB, nC])
 first | (refine tl 51 (v := ?_) ?_ ?_; rotate_left; focus ((intro wx hSw; refine Eq.trans (run_load_sub 38 (.tmp 115) (by rfl) (x4 + 1 + 1) 0 4 (by rfl) hSw.2.2.2.2.2.2.1 (by decide) _ Tryz.underlying38 rfl iqt) ?_; rw [show arrv 4 (fun i => tw4 (0 + i)) = arrv 4 oneQ from arrv_congr (by decide)]))) | (refine wpAnyM_take 51 rfl (by kernel_rfl) (fun _ _ _ h => h) (Or.inr ⟨by rfl, rfl⟩) (by assumption) ?_)
 (try simp only [Act.put, nA, nB, nC])
 refine wpAnyM_oneS 52 rfl (by kernel_rfl) (fun K hK => ?_)
 go_simp
 (refine (qone_any _).mono ?_); rintro e u1 ⟨rfl, hb⟩; have HU := Lib.hid (HS.out.down hb); clear HS hb; have HS := HU; clear HU
 (try dsimp only)
 (try simp only [Act.put, nA, nB, nC])
 clear hHeld
 refine hK.out _ _ ?_ (fun hHeld => ?_)
 ·exact ⟨(HS.out.has (x1 + 1 + 1, 42, 11, tw1) (by simp)).1, (HS.out.has (x1 + 1, 26, 300, q) (by simp)).1, (HS.out.has (x1, 23, 24, aw1) (by simp)).1, (HS.out.has (x2 + 1 + 1, 42, 11, tw2) (by simp)).1, (HS.out.has (x3 + 1 + 1, 42, 11, tw3) (by simp)).1, (HS.out.has (x3, 23, 24, aw3) (by simp)).1, (HS.out.has (x4 + 1 + 1, 42, 11, tw4) (by simp)).1, (HS.out.has (x4, 23, 24, aw3) (by simp)).1, (HS.out.has (x5, 40, 10, jw) (by simp)).1, HS.out.fl.cell⟩
 clear hK K
 (try simp only [Act.put, nA, nB, nC])
 first | (refine tl 53 (v := ?_) ?_ ?_; rotate_left; focus ((intro wx hSw; refine Eq.trans (run_op_eqlVec Tryz.underlying38 (by kernel_rfl) (.tmp 116) (.tmp 117) (by rfl) (by rfl) (by rfl) HE.out.2.1) ?_; with_reducible rfl))) | (refine wpAnyM_take 53 rfl (by kernel_rfl) (fun _ _ _ h => h) (Or.inr ⟨by rfl, rfl⟩) (by assumption) ?_)
 (try simp only [Act.put, nA, nB, nC])
 refine tk 54 ?_
 (try simp only [Act.put, nA, nB, nC])
 refine tk 55 ?_
 (try simp only [Act.put, nA, nB, nC])
 first | (refine tl 56 (v := ?_) ?_ ?_; rotate_left; focus ((intro wx hSw; refine Eq.trans (run_load_row 23 (.tmp 12) (by rfl) (x4) (by rfl) _ _ _ _ (hSw.2.2.2.2.2.2.2.1) Tryz.underlying23 rfl (ist.trans (by rw [arrv_size]))) ?_; with_reducible rfl))) | (refine wpAnyM_take 56 rfl (by kernel_rfl) (fun _ _ _ h => h) (Or.inr ⟨by rfl, rfl⟩) (by assumption) ?_)
 (try simp only [Act.put, nA, nB, nC])
 first | (refine tl 57 (v := ?_) ?_ ?_; rotate_left; focus ((intro wx hSw; refine Eq.trans (run_load_row 23 (.tmp 9) (by rfl) (x3) (by rfl) _ _ _ _ (hSw.2.2.2.2.2.1) Tryz.underlying23 rfl (ist.trans (by rw [arrv_size]))) ?_; with_reducible rfl))) | (refine wpAnyM_take 57 rfl (by kernel_rfl) (fun _ _ _ h => h) (Or.inr ⟨by rfl, rfl⟩) (by assumption) ?_)
 (try simp only [Act.put, nA, nB, nC])
 first | (refine tl 58 (v := ?_) ?_ ?_; rotate_left; focus ((intro wx hSw; refine Eq.trans (run_op_eqlVec Tryz.underlying23 (by kernel_rfl) (.tmp 121) (.tmp 122) (by rfl) (by rfl) (by rfl) HE.out.1) ?_; with_reducible rfl))) | (refine wpAnyM_take 58 rfl (by kernel_rfl) (fun _ _ _ h => h) (Or.inr ⟨by rfl, rfl⟩) (by assumption) ?_)
 (try simp only [Act.put, nA, nB, nC])
 refine tk 59 ?_
 (try simp only [Act.put, nA, nB, nC])
 refine tk 60 ?_
 (try simp only [Act.put, nA, nB, nC])
 first | (refine tl 61 (v := ?_) ?_ ?_; rotate_left; focus ((intro wx hSw; (try dsimp only at hSw); go_simp; (try with_reducible rfl)))) | (refine wpAnyM_take 61 rfl (by kernel_rfl) (fun _ _ _ h => h) (Or.inr ⟨by rfl, rfl⟩) (by assumption) ?_)
 (try simp only [Act.put, nA, nB, nC])
 first | (refine tl 62 (v := ?_) ?_ ?_; rotate_left; focus ((intro wx hSw; refine Eq.trans (run_load_sub 28 (.tmp 126) (by rfl) (x5) 7 3 (by rfl) hSw.2.2.2.2.2.2.2.2.1 (by decide) _ Tryz.underlying28 rfl iv3) ?_; rw [show arrv 3 (fun i => jw (7 + i)) = arrv 3 (vc3 4 5 (-1073741824)) from arrv_congr (by decide)]))) | (refine wpAnyM_take 62 rfl (by kernel_rfl) (fun _ _ _ h => h) (Or.inr ⟨by rfl, rfl⟩) (by assumption) ?_)
 (try simp only [Act.put, nA, nB, nC])
 first | (refine tl 63 (v := ?_) ?_ ?_; rotate_left; focus ((intro wx hSw; refine Eq.trans (run_build_v3 (.const (.int .i64 4)) (.const (.int .i64 5)) (.const (.int .i64 (-1073741824))) (by rfl) (by rfl) (by rfl) (by rfl)) ?_; with_reducible rfl))) | (refine wpAnyM_take 63 rfl (by kernel_rfl) (fun _ _ _ h => h) (Or.inr ⟨by rfl, rfl⟩) (by assumption) ?_)
 (try simp only [Act.put, nA, nB, nC])
 first | (refine tl 64 (v := ?_) ?_ ?_; rotate_left; focus ((intro wx hSw; refine Eq.trans (run_op_eqlVec Tryz.underlying28 (by kernel_rfl) (.tmp 127) (.tmp 128) (by rfl) (by rfl) (by rfl) HE.out.2.2.2.2) ?_; with_reducible rfl))) | (refine wpAnyM_take 64 rfl (by kernel_rfl) (fun _ _ _ h => h) (Or.inr ⟨by rfl, rfl⟩) (by assumption) ?_)
 (try simp only [Act.put, nA, nB, nC])
 refine tk 65 ?_
 (try simp only [Act.put, nA, nB, nC])
 refine tk 66 ?_
 (try simp only [Act.put, nA, nB, nC])
 first | (refine tl 67 (v := ?_) ?_ ?_; rotate_left; focus ((intro wx hSw; (try dsimp only at hSw); go_simp; (try with_reducible rfl)))) | (refine wpAnyM_take 67 rfl (by kernel_rfl) (fun _ _ _ h => h) (Or.inr ⟨by rfl, rfl⟩) (by assumption) ?_)
 (try simp only [Act.put, nA, nB, nC])
 first | (refine tl 68 (v := ?_) ?_ ?_; rotate_left; focus ((intro wx hSw; refine Eq.trans (run_load_sub 28 (.tmp 132) (by rfl) (x5) 4 3 (by rfl) hSw.2.2.2.2.2.2.2.2.1 (by decide) _ Tryz.underlying28 rfl iv3) ?_; rw [show arrv 3 (fun i => jw (4 + i)) = arrv 3 (vc3 1 2 3) from arrv_congr (by decide)]))) | (refine wpAnyM_take 68 rfl (by kernel_rfl) (fun _ _ _ h => h) (Or.inr ⟨by rfl, rfl⟩) (by assumption) ?_)
 (try simp only [Act.put, nA, nB, nC])
 first | (refine tl 69 (v := ?_) ?_ ?_; rotate_left; focus ((intro wx hSw; (try dsimp only at hSw); go_simp; (try with_reducible rfl)))) | (refine wpAnyM_take 69 rfl (by kernel_rfl) (fun _ _ _ h => h) (Or.inr ⟨by rfl, rfl⟩) (by assumption) ?_)
 (try simp only [Act.put, nA, nB, nC])
 first | (refine tl 70 (v := ?_) ?_ ?_; rotate_left; focus ((intro wx hSw; (try dsimp only at hSw); go_simp; (try with_reducible rfl)))) | (refine wpAnyM_take 70 rfl (by kernel_rfl) (fun _ _ _ h => h) (Or.inr ⟨by rfl, rfl⟩) (by assumption) ?_)
 (try simp only [Act.put, nA, nB, nC])
 first | (refine tl 71 (v := ?_) ?_ ?_; rotate_left; focus ((intro wx hSw; refine Eq.trans (run_load_sub 28 (.tmp 135) (by rfl) (x2 + 1 + 1) 4 3 (by rfl) hSw.2.2.2.1 (by decide) _ Tryz.underlying28 rfl iv3) ?_; rw [show arrv 3 (fun i => tw2 (4 + i)) = arrv 3 (vc3 1 2 3) from arrv_congr (by decide)]))) | (refine wpAnyM_take 71 rfl (by kernel_rfl) (fun _ _ _ h => h) (Or.inr ⟨by rfl, rfl⟩) (by assumption) ?_)
 (try simp only [Act.put, nA, nB, nC])
 first | (refine tl 72 (v := ?_) ?_ ?_; rotate_left; focus ((intro wx hSw; refine Eq.trans (run_op_eqlVec Tryz.underlying28 (by kernel_rfl) (.tmp 133) (.tmp 136) (by rfl) (by rfl) (by rfl) HE.out.2.2.2.1) ?_; with_reducible rfl))) | (refine wpAnyM_take 72 rfl (by kernel_rfl) (fun _ _ _ h => h) (Or.inr ⟨by rfl, rfl⟩) (by assumption) ?_)
 (try simp only [Act.put, nA, nB, nC])
 refine tk 73 ?_
 (try simp only [Act.put, nA, nB, nC])
 refine tk 74 ?_
 (try simp only [Act.put, nA, nB, nC])
 refine wpAnyM_oneS 75 rfl (by kernel_rfl) (fun K hK => ?_)
 go_simp
 (refine (nothing_any _).mono ?_); rintro e u2 ⟨rfl, hb⟩; have HU := Lib.hid (HS.out.down hb); clear HS hb; have HS := HU; clear HU
 (try dsimp only)
 (try simp only [Act.put, nA, nB, nC])
 clear hHeld
 refine hK.out _ _ ?_ (fun hHeld => ?_)
 ·exact ⟨(HS.out.has (x1 + 1 + 1, 42, 11, tw1) (by simp)).1, (HS.out.has (x1 + 1, 26, 300, q) (by simp)).1, (HS.out.has (x1, 23, 24, aw1) (by simp)).1, (HS.out.has (x2 + 1 + 1, 42, 11, tw2) (by simp)).1, (HS.out.has (x3 + 1 + 1, 42, 11, tw3) (by simp)).1, (HS.out.has (x3, 23, 24, aw3) (by simp)).1, (HS.out.has (x4 + 1 + 1, 42, 11, tw4) (by simp)).1, (HS.out.has (x4, 23, 24, aw3) (by simp)).1, (HS.out.has (x5, 40, 10, jw) (by simp)).1, HS.out.fl.cell⟩
 clear hK K
 (try simp only [Act.put, nA, nB, nC])
 refine wpAnyM_oneS 76 rfl (by kernel_rfl) (fun K hK => ?_)
 go_simp
 (refine (qone_any _).mono ?_); rintro e u3 ⟨rfl, hb⟩; have HU := Lib.hid (HS.out.down hb); clear HS hb; have HS := HU; clear HU
 (try dsimp only)
 (try simp only [Act.put, nA, nB, nC])
 clear hHeld
 refine hK.out _ _ ?_ (fun hHeld => ?_)
 ·exact ⟨(HS.out.has (x1 + 1 + 1, 42, 11, tw1) (by simp)).1, (HS.out.has (x1 + 1, 26, 300, q) (by simp)).1, (HS.out.has (x1, 23, 24, aw1) (by simp)).1, (HS.out.has (x2 + 1 + 1, 42, 11, tw2) (by simp)).1, (HS.out.has (x3 + 1 + 1, 42, 11, tw3) (by simp)).1, (HS.out.has (x3, 23, 24, aw3) (by simp)).1, (HS.out.has (x4 + 1 + 1, 42, 11, tw4) (by simp)).1, (HS.out.has (x4, 23, 24, aw3) (by simp)).1, (HS.out.has (x5, 40, 10, jw) (by simp)).1, HS.out.fl.cell⟩
 clear hK K
 (try simp only [Act.put, nA, nB, nC])
 first | (refine tl 77 (v := ?_) ?_ ?_; rotate_left; focus ((intro wx hSw; refine Eq.trans (run_build_dl (.tmp 141) (by rfl) (by rfl)) ?_; rw [ED.out]))) | (refine wpAnyM_take 77 rfl (by kernel_rfl) (fun _ _ _ h => h) (Or.inr ⟨by rfl, rfl⟩) (by assumption) ?_)
 (try simp only [Act.put, nA, nB, nC])
 first | (refine tl 78 (v := ?_) ?_ ?_; rotate_left; focus ((intro wx hSw; refine Eq.trans (run_op_eqlDl (.tmp 140) (.tmp 142) (by rfl) (by rfl) (by rfl)) ?_; with_reducible rfl))) | (refine wpAnyM_take 78 rfl (by kernel_rfl) (fun _ _ _ h => h) (Or.inr ⟨by rfl, rfl⟩) (by assumption) ?_)
 (try simp only [Act.put, nA, nB, nC])
 refine tk 79 ?_
 (try simp only [Act.put, nA, nB, nC])
 refine tk 80 ?_
 (try simp only [Act.put, nA, nB, nC])
 first | (refine tl 81 (v := ?_) ?_ ?_; rotate_left; focus ((intro wx hSw; (try dsimp only at hSw); go_simp; (try with_reducible rfl)))) | (refine wpAnyM_take 81 rfl (by kernel_rfl) (fun _ _ _ h => h) (Or.inr ⟨by rfl, rfl⟩) (by assumption) ?_)
 (try simp only [Act.put, nA, nB, nC])
 first | (refine tl 82 (v := ?_) ?_ ?_; rotate_left; focus ((intro wx hSw; (try dsimp only at hSw); go_simp; (try with_reducible rfl)))) | (refine wpAnyM_take 82 rfl (by kernel_rfl) (fun _ _ _ h => h) (Or.inr ⟨by rfl, rfl⟩) (by assumption) ?_)
 (try simp only [Act.put, nA, nB, nC])
 first | (refine tl 83 (v := ?_) ?_ ?_; rotate_left; focus ((intro wx hSw; (try dsimp only at hSw); go_simp; (try with_reducible rfl)))) | (refine wpAnyM_take 83 rfl (by kernel_rfl) (fun _ _ _ h => h) (Or.inr ⟨by rfl, rfl⟩) (by assumption) ?_)
 (try simp only [Act.put, nA, nB, nC])
 first | (refine tl 84 (v := ?_) ?_ ?_; rotate_left; focus ((intro wx hSw; have h0 := hSw.2.2.2.2.2.2.2.2.2; go_simp; (try with_reducible rfl)))) | (refine wpAnyM_take 84 rfl (by kernel_rfl) (fun _ _ _ h => h) (Or.inr ⟨by rfl, rfl⟩) (by assumption) ?_)
 (try simp only [Act.put, nA, nB, nC])
 first | (refine tl 85 (v := ?_) ?_ ?_; rotate_left; focus ((intro wx hSw; (try dsimp only at hSw); go_simp; (try with_reducible rfl)))) | (refine wpAnyM_take 85 rfl (by kernel_rfl) (fun _ _ _ h => h) (Or.inr ⟨by rfl, rfl⟩) (by assumption) ?_)
 (try simp only [Act.put, nA, nB, nC])
 refine tk 86 ?_
 (try simp only [Act.put, nA, nB, nC])
 refine wpAnyM_one 87 rfl (by kernel_rfl) (fun K hK => ?_)
 go_simp
 refine hK.out _ _ (.inl (by kernel_rfl)) (fun _ => ?_)
 clear hK K
 (try simp only [Act.put, nA, nB, nC])
 refine wpAnyM_done (by kernel_rfl) ?_ _
 go_wp2_with fail
 go_ret
 exact ⟨rfl, HS.out.below⟩
end Go.Proofs.YtgfklheepkgedaaGreat
