/- Contracts of the program's functions and plain laws, part 23: they hold for all arguments. -/
import Derived.Test.YtgfklheepkgedaaGreatQ18
import Derived.Test.YtgfklheepkgedaaGreatQ20
import Derived.Test.YtgfklheepkgedaaGreatQ07
import Derived.Test.YtgfklheepkgedaaGreatQ22
import Derived.Test.YtgfklheepkgedaaGreatQ11
/- The reference's product of quaternions (printed by wip/gen_rmul.py). -/
namespace Go.Proofs.YtgfklheepkgedaaGreat
open Go.RowKit
open Go
set_option maxRecDepth 100000
theorem run_build_rqq {o : Oper} {ev : Operand → Value} {w : World} (x y z u : Operand) (ho : o.op = .build 43 #[(0, x), (1, y), (2, z), (3, u)]) {a b c d : Int} (hx : ev x = .int .i64 a) (hy : ev y = .int .i64 b) (hz : ev z = .int .i64 c) (hu : ev u = .int .i64 d) :
  (execOp ev o).run Tryz.prog w = .ok (.value (.agg (arrv 4 (q4 a b c d)))) w := by
 unfold execOp
 simp only [ho, List.map_toArray, List.map_cons, List.map_nil, hx, hy, hz, hu]
 kernel_rfl
theorem fill4q (a b c d : Int) (Z : Array Value) (hZ : Z = arrv 4 (fun _ => 0)) : Instr.fill (fun i => some (i * 1, 1)) Z [(0, .int .i64 a), (1, .int .i64 b), (2, .int .i64 c), (3, .int .i64 d)] = some (arrv 4 (q4 a b c d)) := by
 subst hZ; kernel_rfl
theorem zrange4q (Z : Array Value) (hZ : Z = arrv 1 (fun _ => 0)) : (Array.range (4 * 1)).map (fun i => Z[i % Z.size]!) = arrv 4 (fun _ => 0) := by
 subst hZ; kernel_rfl
theorem run_bsl4q (a b c d : Int) (w : World) : (Instr.buildSlice 71 4 #[(0, .int .i64 a), (1, .int .i64 b), (2, .int .i64 c), (3, .int .i64 d)]).run Tryz.prog w = .ok (.slice (some ⟨w.heap.size, 0, none⟩) 4 4) (w.alloc (.cells (arrv 4 (q4 a b c d)) 2)) := by
 have hz : (zeroValue 2).run Tryz.prog w = .ok (.int .i64 0) w := by kernel_rfl
 have hs : (sizeOf 2).run Tryz.prog w = .ok 1 w := by kernel_rfl
 unfold Instr.buildSlice
 simp only [Sem.run_bind, run_underlying Tryz.underlying71, Result.andThen_ok, hs]
 rw [if_neg (by decide), if_neg (by decide)]
 have hf : Instr.fill (fun i => some (i * 1, 1)) (Array.map (fun x => (Value.int .i64 0).cells[x % (Value.int .i64 0).cells.size]!) (Array.range (4 * 1))) [(0, .int .i64 a), (1, .int .i64 b), (2, .int .i64 c), (3, .int .i64 d)] = some (arrv 4 (q4 a b c d)) :=
  fill4q a b c d _ (zrange4q (Value.int .i64 0).cells (by kernel_rfl))
 simp only [Sem.run_bind, hz, Result.andThen_ok, Sem.run_pure, hf]
 simp [newRow, newObj, go_sem]
 rfl
theorem wp_bsl4q {o : Oper} {a : Act} {w : World} {K : Act → World → Prop} {Q : Exit → Act → World → Prop} {a0 a1 a2 a3 : Int} (x0 x1 x2 x3 : Operand) (ho : o.op = .buildSlice 71 4 #[(0, x0), (1, x1), (2, x2), (3, x3)])
  (h0 : a.eval x0 = .int .i64 a0) (h1 : a.eval x1 = .int .i64 a1) (h2 : a.eval x2 = .int .i64 a2) (h3 : a.eval x3 = .int .i64 a3)
  (h : K (a.put o.dst (.slice (some ⟨w.heap.size, 0, none⟩) 4 4)) (w.alloc (.cells (arrv 4 (q4 a0 a1 a2 a3)) 2))) : o.wp Tryz.prog a w K Q := by
 unfold Oper.wp execOp
 simp only [ho, Sem.run_bind, List.map_toArray, List.map_cons, List.map_nil, h0, h1, h2, h3, run_bsl4q a0 a1 a2 a3 w, Result.andThen_ok]
 exact h
theorem z4q : (#[.int .i64 0, .int .i64 0, .int .i64 0, .int .i64 0] : Array Value) = arrv 4 (fun _ => 0) := by kernel_rfl
theorem ne2 {a b g : Nat} {A B : Nat → Int} {T U m n : Nat} (h1 : a ≠ g) (h2 : b ≠ g) : ∀ e, e ∈ [(⟨a, T, m, A⟩ : Lx), ⟨b, U, n, B⟩] → e.b ≠ g := by
 intro e he
 simp only [List.mem_cons, List.not_mem_nil, or_false] at he
 rcases he with rfl | rfl
 ·exact h1
 ·exact h2
/-- A slice of four made in the call. -/
theorem rm_sl {c : Addr} {h : Bool} {E : List Lx} {top : Nat} {w wr : World} (s : LsR c h E top w wr) (A : Nat → Int) (d : Nat) (e : wr.heap.size = d) :
  Blk (wr.alloc (.cells (arrv 4 A) 2)) d 2 4 A ∧ d ≠ c.block := by
 subst e
 have := s.le
 have := s.lim
 have := s.cb
 exact ⟨Blk.new _ _ _ _, by omega⟩
theorem qr_0 (B : Nat → Int) : qmR B 0 = q4 (B 0) (-B 1) (-B 2) (-B 3) := rfl
theorem qr_1 (B : Nat → Int) : qmR B 1 = q4 (B 1) (B 0) (B 3) (-B 2) := rfl
theorem qr_2 (B : Nat → Int) : qmR B 2 = q4 (B 2) (-B 3) (B 0) (B 1) := rfl
theorem qr_3 (B : Nat → Int) : qmR B 3 = q4 (B 3) (B 2) (-B 1) (B 0) := rfl
theorem qf_0 (a b c d : Int) : q4 a b c d 0 = a := rfl
theorem qf_1 (a b c d : Int) : q4 a b c d 1 = b := rfl
theorem qf_2 (a b c d : Int) : q4 a b c d 2 = c := rfl
theorem qf_3 (a b c d : Int) : q4 a b c d 3 = d := rfl
theorem or4 (p : Nat → Bool) : orB p 4 = (p 0 || p 1 || p 2 || p 3) := by simp [orB]
set_option maxHeartbeats 16000000 in
theorem rqmul_any (c : Addr) (h : Bool) (A B : Nat → Int) (w : World) (hc : w.cell? c = some (.bool h)) (hf : w.frozen? c = false) :
  Calls Tryz.prog 31 #[.pointer (some c), .agg (arrv 4 A), .agg (arrv 4 B)] w fun e w' => e = .returned (.agg (arrv 4 (qmV A B))) ∧ Upd c (h || qmH A B) w w' := by
 have L0 := Lib.hid (show LsR c h [⟨w.heap.size, 43, 4, A⟩, ⟨w.heap.size + 1, 43, 4, B⟩, ⟨w.heap.size + 1 + 1, 43, 4, fun _ => 0⟩] (w.heap.size + 1 + 1 + 1) w (((w.alloc (.cells (arrv 4 A) 43)).alloc (.cells (arrv 4 B) 43)).alloc (.cells #[.int .i64 0, .int .i64 0, .int .i64 0, .int .i64 0] 43)) by
  rw [z4q]
  have := (((ls_nil hc hf).lay 43 4 A).lay 43 4 B).lay 43 4 (fun _ => 0)
  simp at this
  exact this.sub (by simp))
 clear hc hf
 go_enter Tryz.func31, Tryz.ntmps31
 go_upto_region 1 with fail
 generalize ((w.alloc (.cells (arrv 4 A) 43)).alloc (.cells (arrv 4 B) 43)).alloc (.cells #[.int .i64 0, .int .i64 0, .int .i64 0, .int .i64 0] 43) = W0 at *
 have P0 := L0.out.e0
 refine wp_region_lit ?_
 refine tv ?_
 (try simp only [Act.put, nA, nB, nC])
 refine wpList_val (v := ?_) rfl ?_ ?_
 rotate_left
 ·(refine Eq.trans (run_load_row 43 (.tmp 4) (by rfl) w.heap.size (by rfl) _ _ _ _ P0 Tryz.underlying43 rfl (irq.trans (by rw [arrv_size]))) ?_; with_reducible rfl)
 (try simp only [Act.put, nA, nB, nC])
 refine wpList_step (fun K hK => ?_)
 go_simp
 (refine (rqsat_any c h A _ L0.out.cell L0.out.free).mono ?_); rintro e w1 ⟨rfl, hu⟩; have L1 := Lib.hid (L0.out.upd' hu); clear hu L0 P0; have P1 := L1.out.e0
 (try dsimp only)
 (try simp only [Act.put, nA, nB, nC])
 refine hK _ _ ?_
 clear hK K
 refine wpList_done (w' := ?_) rfl ?_ ?_
 rotate_left
 ·(refine Eq.trans (run_store_row 43 (.tmp 4) (.tmp 10) (by rfl) w.heap.size (by rfl) (by rfl) P1 (irq.trans rfl)) ?_; with_reducible rfl)
 (try simp only [Act.put, nA, nB, nC])
 refine wpList_nil ?_
 have L2 := Lib.hid ((L1.out.row (ne2 (by omega) (by omega)) (satA A)).sub (E' := [⟨w.heap.size + 1, 43, 4, B⟩, ⟨w.heap.size, 43, 4, satA A⟩, ⟨w.heap.size + 1 + 1, 43, 4, fun _ => 0⟩]) (by simp))
 generalize w1.setRow w.heap.size (arrv 4 (satA A)) = W1 at *
 clear L1 P1
 have P0 := L2.out.e0
 go_upto_region 2 with fail
 refine wp_region_lit ?_
 refine tv ?_
 (try simp only [Act.put, nA, nB, nC])
 refine wpList_val (v := ?_) rfl ?_ ?_
 rotate_left
 ·(refine Eq.trans (run_load_row 43 (.tmp 5) (by rfl) (w.heap.size + 1) (by rfl) _ _ _ _ P0 Tryz.underlying43 rfl (irq.trans (by rw [arrv_size]))) ?_; with_reducible rfl)
 (try simp only [Act.put, nA, nB, nC])
 refine wpList_step (fun K hK => ?_)
 go_simp
 (refine (rqsat_any c _ B _ L2.out.cell L2.out.free).mono ?_); rintro e w2 ⟨rfl, hu⟩; have L3 := Lib.hid (L2.out.upd' hu); clear hu L2 P0; have P1 := L3.out.e0
 (try dsimp only)
 (try simp only [Act.put, nA, nB, nC])
 refine hK _ _ ?_
 clear hK K
 refine wpList_done (w' := ?_) rfl ?_ ?_
 rotate_left
 ·(refine Eq.trans (run_store_row 43 (.tmp 5) (.tmp 13) (by rfl) (w.heap.size + 1) (by rfl) (by rfl) P1 (irq.trans rfl)) ?_; with_reducible rfl)
 (try simp only [Act.put, nA, nB, nC])
 refine wpList_nil ?_
 have L4 := Lib.hid (L3.out.row (ne2 (by omega) (by omega)) (satA B))
 generalize w2.setRow (w.heap.size + 1) (arrv 4 (satA B)) = W2 at *
 clear L3 P1
 have HV := Lib.hid (show ∀ b0 b1 b2 b3, satA B 0 = b0 → satA B 1 = b1 → satA B 2 = b2 → satA B 3 = b3 → arrv 4 (q4 (dotV 30 (satA A) (q4 b0 (-b1) (-b2) (-b3)) 4) (dotV 30 (satA A) (q4 b1 b0 b3 (-b2)) 4) (dotV 30 (satA A) (q4 b2 (-b3) b0 b1) 4) (dotV 30 (satA A) (q4 b3 b2 (-b1) b0) 4)) = arrv 4 (qmV A B) ∧ (h || orB (fun i => satH (A i)) 4 || orB (fun i => satH (B i)) 4 || dotH 30 (satA A) (q4 b0 (-b1) (-b2) (-b3)) 4 || dotH 30 (satA A) (q4 b1 b0 b3 (-b2)) 4 || dotH 30 (satA A) (q4 b2 (-b3) b0 b1) 4 || dotH 30 (satA A) (q4 b3 b2 (-b1) b0) 4) = (h || qmH A B) by
  rintro b0 b1 b2 b3 rfl rfl rfl rfl
  refine ⟨arrv_congr fun i hi => ?_, ?_⟩
  ·rcases (show i = 0 ∨ i = 1 ∨ i = 2 ∨ i = 3 by omega) with rfl | rfl | rfl | rfl
   ·unfold qmV; rw [qr_0, qf_0]
   ·unfold qmV; rw [qr_1, qf_1]
   ·unfold qmV; rw [qr_2, qf_2]
   ·unfold qmV; rw [qr_3, qf_3]
  ·unfold qmH
   have e : orB (fun r => dotH 30 (satA A) (qmR (satA B) r) 4) 4 = (dotH 30 (satA A) (qmR (satA B) 0) 4 || dotH 30 (satA A) (qmR (satA B) 1) 4 || dotH 30 (satA A) (qmR (satA B) 2) 4 || dotH 30 (satA A) (qmR (satA B) 3) 4) := or4 _
   rw [e, qr_0, qr_1, qr_2, qr_3]
   simp only [Bool.or_assoc])
 have bb : ∀ i, -1152921504606846976 ≤ satA B i ∧ satA B i ≤ 1152921504606846976 := fun i => satV_bd _
 obtain ⟨SA, hSA⟩ : ∃ x, satA A = x := ⟨_, rfl⟩
 rw [hSA] at L4 HV
 clear hSA
 obtain ⟨SB, hSB⟩ : ∃ x, satA B = x := ⟨_, rfl⟩
 rw [hSB] at L4 HV bb
 clear hSB
 obtain ⟨b0, hb0⟩ : ∃ x, SB 0 = x := ⟨_, rfl⟩
 obtain ⟨b1, hb1⟩ : ∃ x, SB 1 = x := ⟨_, rfl⟩
 obtain ⟨b2, hb2⟩ : ∃ x, SB 2 = x := ⟨_, rfl⟩
 obtain ⟨b3, hb3⟩ : ∃ x, SB 3 = x := ⟨_, rfl⟩
 have NB := Lib.hid (show IntKind.i64.wrap (-b1) = -b1 ∧ IntKind.i64.wrap (-b2) = -b2 ∧ IntKind.i64.wrap (-b3) = -b3 by
  have k1 := bb 1; have k2 := bb 2; have k3 := bb 3
  rw [hb1] at k1; rw [hb2] at k2; rw [hb3] at k3
  exact ⟨IntWalk.i64_in _ (by omega), IntWalk.i64_in _ (by omega), IntWalk.i64_in _ (by omega)⟩)
 have CB := Lib.hid (fun (x : World) (s : Blk x (w.heap.size + 1) 43 4 SB) => show x.cell? ⟨w.heap.size + 1, 0, none⟩ = some (.int .i64 b0) ∧ x.cell? ⟨w.heap.size + 1, 1, none⟩ = some (.int .i64 b1) ∧ x.cell? ⟨w.heap.size + 1, 2, none⟩ = some (.int .i64 b2) ∧ x.cell? ⟨w.heap.size + 1, 3, none⟩ = some (.int .i64 b3) from
  ⟨hb0 ▸ s.cell (by decide), hb1 ▸ s.cell (by decide), hb2 ▸ s.cell (by decide), hb3 ▸ s.cell (by decide)⟩)
 have HE := HV.out b0 b1 b2 b3 hb0 hb1 hb2 hb3
 clear bb hb0 hb1 hb2 hb3 HV
 obtain ⟨H0, hH0⟩ : ∃ x, (h || orB (fun i => satH (A i)) 4 || orB (fun i => satH (B i)) 4) = x := ⟨_, rfl⟩
 rw [hH0] at L4 HE
 clear hH0
 have DC0 := fun (x : World) (b : Nat) (k : x.cell? c = some (.bool H0)) (f : x.frozen? c = false) (a : Blk x w.heap.size 43 4 SA) (d : Blk x b 2 4 (q4 b0 (-b1) (-b2) (-b3))) => rdot_any c H0 SA (q4 b0 (-b1) (-b2) (-b3)) w.heap.size 0 4 b 0 4 4 x k f (by decide) (fun i hi => by rw [Nat.zero_add]; exact a.cell hi) (fun i hi => by rw [Nat.zero_add]; exact d.cell hi)
 obtain ⟨d0, hd0⟩ : ∃ x, dotV 30 SA (q4 b0 (-b1) (-b2) (-b3)) 4 = x := ⟨_, rfl⟩
 rw [hd0] at DC0 HE
 clear hd0
 obtain ⟨H1, hH1⟩ : ∃ x, (H0 || dotH 30 SA (q4 b0 (-b1) (-b2) (-b3)) 4) = x := ⟨_, rfl⟩
 rw [hH1] at DC0 HE
 clear hH1
 have DC0 := Lib.hid DC0
 have DC1 := fun (x : World) (b : Nat) (k : x.cell? c = some (.bool H1)) (f : x.frozen? c = false) (a : Blk x w.heap.size 43 4 SA) (d : Blk x b 2 4 (q4 b1 b0 b3 (-b2))) => rdot_any c H1 SA (q4 b1 b0 b3 (-b2)) w.heap.size 0 4 b 0 4 4 x k f (by decide) (fun i hi => by rw [Nat.zero_add]; exact a.cell hi) (fun i hi => by rw [Nat.zero_add]; exact d.cell hi)
 obtain ⟨d1, hd1⟩ : ∃ x, dotV 30 SA (q4 b1 b0 b3 (-b2)) 4 = x := ⟨_, rfl⟩
 rw [hd1] at DC1 HE
 clear hd1
 obtain ⟨H2, hH2⟩ : ∃ x, (H1 || dotH 30 SA (q4 b1 b0 b3 (-b2)) 4) = x := ⟨_, rfl⟩
 rw [hH2] at DC1 HE
 clear hH2
 have DC1 := Lib.hid DC1
 have DC2 := fun (x : World) (b : Nat) (k : x.cell? c = some (.bool H2)) (f : x.frozen? c = false) (a : Blk x w.heap.size 43 4 SA) (d : Blk x b 2 4 (q4 b2 (-b3) b0 b1)) => rdot_any c H2 SA (q4 b2 (-b3) b0 b1) w.heap.size 0 4 b 0 4 4 x k f (by decide) (fun i hi => by rw [Nat.zero_add]; exact a.cell hi) (fun i hi => by rw [Nat.zero_add]; exact d.cell hi)
 obtain ⟨d2, hd2⟩ : ∃ x, dotV 30 SA (q4 b2 (-b3) b0 b1) 4 = x := ⟨_, rfl⟩
 rw [hd2] at DC2 HE
 clear hd2
 obtain ⟨H3, hH3⟩ : ∃ x, (H2 || dotH 30 SA (q4 b2 (-b3) b0 b1) 4) = x := ⟨_, rfl⟩
 rw [hH3] at DC2 HE
 clear hH3
 have DC2 := Lib.hid DC2
 have DC3 := fun (x : World) (b : Nat) (k : x.cell? c = some (.bool H3)) (f : x.frozen? c = false) (a : Blk x w.heap.size 43 4 SA) (d : Blk x b 2 4 (q4 b3 b2 (-b1) b0)) => rdot_any c H3 SA (q4 b3 b2 (-b1) b0) w.heap.size 0 4 b 0 4 4 x k f (by decide) (fun i hi => by rw [Nat.zero_add]; exact a.cell hi) (fun i hi => by rw [Nat.zero_add]; exact d.cell hi)
 obtain ⟨d3, hd3⟩ : ∃ x, dotV 30 SA (q4 b3 b2 (-b1) b0) 4 = x := ⟨_, rfl⟩
 rw [hd3] at DC3 HE
 clear hd3
 obtain ⟨H4, hH4⟩ : ∃ x, (H3 || dotH 30 SA (q4 b3 b2 (-b1) b0) 4) = x := ⟨_, rfl⟩
 rw [hH4] at DC3 HE
 clear hH4
 have DC3 := Lib.hid DC3
 have HEE := Lib.hid HE
 clear HE
 go_upto_region 4 with fail
 have HS := Lib.hid ((L4.out.sub (E' := [⟨w.heap.size + 1 + 1, 43, 4, fun _ => 0⟩, ⟨w.heap.size, 43, 4, SA⟩, ⟨w.heap.size + 1, 43, 4, SB⟩]) (by simp)).drew)
 clear L4
 (try simp only [Act.put])
 refine wp_region_M (fun w' => w'.cell? ⟨w.heap.size + 1, 0, none⟩ = some (.int .i64 b0) ∧ w'.cell? ⟨w.heap.size + 1, 1, none⟩ = some (.int .i64 b1) ∧ w'.cell? ⟨w.heap.size + 1, 2, none⟩ = some (.int .i64 b2) ∧ w'.cell? ⟨w.heap.size + 1, 3, none⟩ = some (.int .i64 b3)) 63 (by kernel_rfl) ?_ (fun hHeld => ?_)
 ·exact CB.out _ HS.out.e2
 obtain ⟨wx, hwx⟩ : ∃ x, W2.drew = x := ⟨_, rfl⟩; rw [hwx] at HS hHeld ⊢; clear hwx
 clear hHeld
 revert HS
 revert wx
 refine share (T := ?_) (fun SH22 => ?_) ?sp22
 rotate_left
 refine share (T := ?_) (fun SH21 => ?_) ?sp21
 rotate_left
 refine share (T := ?_) (fun SH20 => ?_) ?sp20
 rotate_left
 refine share (T := ?_) (fun SH19 => ?_) ?sp19
 rotate_left
 refine share (T := ?_) (fun SH18 => ?_) ?sp18
 rotate_left
 refine share (T := ?_) (fun SH17 => ?_) ?sp17
 rotate_left
 refine share (T := ?_) (fun SH16 => ?_) ?sp16
 rotate_left
 refine share (T := ?_) (fun SH15 => ?_) ?sp15
 rotate_left
 refine share (T := ?_) (fun SH14 => ?_) ?sp14
 rotate_left
 refine share (T := ?_) (fun SH13 => ?_) ?sp13
 rotate_left
 refine share (T := ?_) (fun SH12 => ?_) ?sp12
 rotate_left
 refine share (T := ?_) (fun SH11 => ?_) ?sp11
 rotate_left
 refine share (T := ?_) (fun SH10 => ?_) ?sp10
 rotate_left
 refine share (T := ?_) (fun SH9 => ?_) ?sp9
 rotate_left
 refine share (T := ?_) (fun SH8 => ?_) ?sp8
 rotate_left
 refine share (T := ?_) (fun SH7 => ?_) ?sp7
 rotate_left
 refine share (T := ?_) (fun SH6 => ?_) ?sp6
 rotate_left
 refine share (T := ?_) (fun SH5 => ?_) ?sp5
 rotate_left
 refine share (T := ?_) (fun SH4 => ?_) ?sp4
 rotate_left
 refine share (T := ?_) (fun SH3 => ?_) ?sp3
 rotate_left
 refine share (T := ?_) (fun SH2 => ?_) ?sp2
 rotate_left
 refine share (T := ?_) (fun SH1 => ?_) ?sp1
 rotate_left
 ·intro wx  HS
  have hHeld : (((fun w' => w'.cell? ⟨w.heap.size + 1, 0, none⟩ = some (.int .i64 b0) ∧ w'.cell? ⟨w.heap.size + 1, 1, none⟩ = some (.int .i64 b1) ∧ w'.cell? ⟨w.heap.size + 1, 2, none⟩ = some (.int .i64 b2) ∧ w'.cell? ⟨w.heap.size + 1, 3, none⟩ = some (.int .i64 b3))) wx) := by exact CB.out _ HS.out.e2
  refine tl 0 (v := ?_) ?_ ?_
  rotate_left
  ·(intro wz hSw; (try dsimp only at hSw); go_simp; (try with_reducible rfl))
  (try simp only [Act.put, nA, nB, nC])
  refine tl 1 (v := ?_) ?_ ?_
  rotate_left
  ·(intro wz hSw; (try dsimp only at hSw); go_simp; (try with_reducible rfl))
  (try simp only [Act.put, nA, nB, nC])
  refine tl 2 (v := ?_) ?_ ?_
  rotate_left
  ·(intro wz hSw; (try dsimp only at hSw); go_simp; (try with_reducible rfl))
  (try simp only [Act.put, nA, nB, nC])
  refine tl 3 (v := ?_) ?_ ?_
  rotate_left
  ·(intro wz hSw; (try dsimp only at hSw); go_simp; (try with_reducible rfl))
  (try simp only [Act.put, nA, nB, nC])
  refine tl 4 (v := ?_) ?_ ?_
  rotate_left
  ·(intro wz hSw; (try dsimp only at hSw); go_simp; (try with_reducible rfl))
  (try simp only [Act.put, nA, nB, nC])
  refine tl 5 (v := ?_) ?_ ?_
  rotate_left
  ·(intro wz hSw; have q := hSw.1; go_simp; with_reducible rfl)
  (try simp only [Act.put, nA, nB, nC])
  refine tl 6 (v := ?_) ?_ ?_
  rotate_left
  ·(intro wz hSw; (try dsimp only at hSw); go_simp; (try with_reducible rfl))
  (try simp only [Act.put, nA, nB, nC])
  refine tl 7 (v := ?_) ?_ ?_
  rotate_left
  ·(intro wz hSw; have q := hSw.2.1; go_simp; with_reducible rfl)
  (try simp only [Act.put, nA, nB, nC])
  refine tl 8 (v := ?_) ?_ ?_
  rotate_left
  ·(intro wz hSw; go_simp; (try rw [NB.out.1]); (try with_reducible rfl))
  (try simp only [Act.put, nA, nB, nC])
  refine tl 9 (v := ?_) ?_ ?_
  rotate_left
  ·(intro wz hSw; (try dsimp only at hSw); go_simp; (try with_reducible rfl))
  (try simp only [Act.put, nA, nB, nC])
  refine tl 10 (v := ?_) ?_ ?_
  rotate_left
  ·(intro wz hSw; have q := hSw.2.2.1; go_simp; with_reducible rfl)
  (try simp only [Act.put, nA, nB, nC])
  refine tl 11 (v := ?_) ?_ ?_
  rotate_left
  ·(intro wz hSw; go_simp; (try rw [NB.out.2.1]); (try with_reducible rfl))
  (try simp only [Act.put, nA, nB, nC])
  refine tl 12 (v := ?_) ?_ ?_
  rotate_left
  ·(intro wz hSw; (try dsimp only at hSw); go_simp; (try with_reducible rfl))
  (try simp only [Act.put, nA, nB, nC])
  refine tl 13 (v := ?_) ?_ ?_
  rotate_left
  ·(intro wz hSw; have q := hSw.2.2.2; go_simp; with_reducible rfl)
  (try simp only [Act.put, nA, nB, nC])
  refine tl 14 (v := ?_) ?_ ?_
  rotate_left
  ·(intro wz hSw; go_simp; (try rw [NB.out.2.2]); (try with_reducible rfl))
  (try simp only [Act.put, nA, nB, nC])
  refine tl 17 (v := ?_) ?_ ?_
  rotate_left
  ·(intro wz hSw; (try dsimp only at hSw); go_simp; (try with_reducible rfl))
  (try simp only [Act.put, nA, nB, nC])
  refine tl 18 (v := ?_) ?_ ?_
  rotate_left
  ·(intro wz hSw; (try dsimp only at hSw); go_simp; (try with_reducible rfl))
  (try simp only [Act.put, nA, nB, nC])
  refine tl 19 (v := ?_) ?_ ?_
  rotate_left
  ·(intro wz hSw; (try dsimp only at hSw); go_simp; (try with_reducible rfl))
  (try simp only [Act.put, nA, nB, nC])
  refine tl 20 (v := ?_) ?_ ?_
  rotate_left
  ·(intro wz hSw; (try dsimp only at hSw); go_simp; (try with_reducible rfl))
  (try simp only [Act.put, nA, nB, nC])
  refine tl 21 (v := ?_) ?_ ?_
  rotate_left
  ·(intro wz hSw; (try dsimp only at hSw); go_simp; (try with_reducible rfl))
  (try simp only [Act.put, nA, nB, nC])
  refine tl 22 (v := ?_) ?_ ?_
  rotate_left
  ·(intro wz hSw; have q := hSw.2.1; go_simp; with_reducible rfl)
  (try simp only [Act.put, nA, nB, nC])
  refine tl 23 (v := ?_) ?_ ?_
  rotate_left
  ·(intro wz hSw; (try dsimp only at hSw); go_simp; (try with_reducible rfl))
  (try simp only [Act.put, nA, nB, nC])
  refine tl 24 (v := ?_) ?_ ?_
  rotate_left
  ·(intro wz hSw; have q := hSw.1; go_simp; with_reducible rfl)
  (try simp only [Act.put, nA, nB, nC])
  refine tl 25 (v := ?_) ?_ ?_
  rotate_left
  ·(intro wz hSw; (try dsimp only at hSw); go_simp; (try with_reducible rfl))
  (try simp only [Act.put, nA, nB, nC])
  refine tl 26 (v := ?_) ?_ ?_
  rotate_left
  ·(intro wz hSw; have q := hSw.2.2.2; go_simp; with_reducible rfl)
  (try simp only [Act.put, nA, nB, nC])
  refine tl 27 (v := ?_) ?_ ?_
  rotate_left
  ·(intro wz hSw; (try dsimp only at hSw); go_simp; (try with_reducible rfl))
  (try simp only [Act.put, nA, nB, nC])
  refine tl 28 (v := ?_) ?_ ?_
  rotate_left
  ·(intro wz hSw; have q := hSw.2.2.1; go_simp; with_reducible rfl)
  (try simp only [Act.put, nA, nB, nC])
  refine tl 29 (v := ?_) ?_ ?_
  rotate_left
  ·(intro wz hSw; go_simp; (try rw [NB.out.2.1]); (try with_reducible rfl))
  (try simp only [Act.put, nA, nB, nC])
  refine tl 32 (v := ?_) ?_ ?_
  rotate_left
  ·(intro wz hSw; (try dsimp only at hSw); go_simp; (try with_reducible rfl))
  (try simp only [Act.put, nA, nB, nC])
  refine tl 33 (v := ?_) ?_ ?_
  rotate_left
  ·(intro wz hSw; (try dsimp only at hSw); go_simp; (try with_reducible rfl))
  (try simp only [Act.put, nA, nB, nC])
  refine tl 34 (v := ?_) ?_ ?_
  rotate_left
  ·(intro wz hSw; (try dsimp only at hSw); go_simp; (try with_reducible rfl))
  (try simp only [Act.put, nA, nB, nC])
  refine tl 35 (v := ?_) ?_ ?_
  rotate_left
  ·(intro wz hSw; (try dsimp only at hSw); go_simp; (try with_reducible rfl))
  (try simp only [Act.put, nA, nB, nC])
  refine tl 36 (v := ?_) ?_ ?_
  rotate_left
  ·(intro wz hSw; (try dsimp only at hSw); go_simp; (try with_reducible rfl))
  (try simp only [Act.put, nA, nB, nC])
  refine tl 37 (v := ?_) ?_ ?_
  rotate_left
  ·(intro wz hSw; have q := hSw.2.2.1; go_simp; with_reducible rfl)
  (try simp only [Act.put, nA, nB, nC])
  refine tl 38 (v := ?_) ?_ ?_
  rotate_left
  ·(intro wz hSw; (try dsimp only at hSw); go_simp; (try with_reducible rfl))
  (try simp only [Act.put, nA, nB, nC])
  refine tl 39 (v := ?_) ?_ ?_
  rotate_left
  ·(intro wz hSw; have q := hSw.2.2.2; go_simp; with_reducible rfl)
  (try simp only [Act.put, nA, nB, nC])
  refine tl 40 (v := ?_) ?_ ?_
  rotate_left
  ·(intro wz hSw; go_simp; (try rw [NB.out.2.2]); (try with_reducible rfl))
  (try simp only [Act.put, nA, nB, nC])
  refine tl 41 (v := ?_) ?_ ?_
  rotate_left
  ·(intro wz hSw; (try dsimp only at hSw); go_simp; (try with_reducible rfl))
  (try simp only [Act.put, nA, nB, nC])
  refine tl 42 (v := ?_) ?_ ?_
  rotate_left
  ·(intro wz hSw; have q := hSw.1; go_simp; with_reducible rfl)
  (try simp only [Act.put, nA, nB, nC])
  refine tl 43 (v := ?_) ?_ ?_
  rotate_left
  ·(intro wz hSw; (try dsimp only at hSw); go_simp; (try with_reducible rfl))
  (try simp only [Act.put, nA, nB, nC])
  refine tl 44 (v := ?_) ?_ ?_
  rotate_left
  ·(intro wz hSw; have q := hSw.2.1; go_simp; with_reducible rfl)
  (try simp only [Act.put, nA, nB, nC])
  refine tl 47 (v := ?_) ?_ ?_
  rotate_left
  ·(intro wz hSw; (try dsimp only at hSw); go_simp; (try with_reducible rfl))
  (try simp only [Act.put, nA, nB, nC])
  refine tl 48 (v := ?_) ?_ ?_
  rotate_left
  ·(intro wz hSw; (try dsimp only at hSw); go_simp; (try with_reducible rfl))
  (try simp only [Act.put, nA, nB, nC])
  refine tl 49 (v := ?_) ?_ ?_
  rotate_left
  ·(intro wz hSw; (try dsimp only at hSw); go_simp; (try with_reducible rfl))
  (try simp only [Act.put, nA, nB, nC])
  refine tl 50 (v := ?_) ?_ ?_
  rotate_left
  ·(intro wz hSw; (try dsimp only at hSw); go_simp; (try with_reducible rfl))
  (try simp only [Act.put, nA, nB, nC])
  refine tl 51 (v := ?_) ?_ ?_
  rotate_left
  ·(intro wz hSw; (try dsimp only at hSw); go_simp; (try with_reducible rfl))
  (try simp only [Act.put, nA, nB, nC])
  refine tl 52 (v := ?_) ?_ ?_
  rotate_left
  ·(intro wz hSw; have q := hSw.2.2.2; go_simp; with_reducible rfl)
  (try simp only [Act.put, nA, nB, nC])
  refine tl 53 (v := ?_) ?_ ?_
  rotate_left
  ·(intro wz hSw; (try dsimp only at hSw); go_simp; (try with_reducible rfl))
  (try simp only [Act.put, nA, nB, nC])
  refine tl 54 (v := ?_) ?_ ?_
  rotate_left
  ·(intro wz hSw; have q := hSw.2.2.1; go_simp; with_reducible rfl)
  (try simp only [Act.put, nA, nB, nC])
  refine tl 55 (v := ?_) ?_ ?_
  rotate_left
  ·(intro wz hSw; (try dsimp only at hSw); go_simp; (try with_reducible rfl))
  (try simp only [Act.put, nA, nB, nC])
  refine tl 56 (v := ?_) ?_ ?_
  rotate_left
  ·(intro wz hSw; have q := hSw.2.1; go_simp; with_reducible rfl)
  (try simp only [Act.put, nA, nB, nC])
  refine tl 57 (v := ?_) ?_ ?_
  rotate_left
  ·(intro wz hSw; go_simp; (try rw [NB.out.1]); (try with_reducible rfl))
  (try simp only [Act.put, nA, nB, nC])
  refine tl 58 (v := ?_) ?_ ?_
  rotate_left
  ·(intro wz hSw; (try dsimp only at hSw); go_simp; (try with_reducible rfl))
  (try simp only [Act.put, nA, nB, nC])
  refine tl 59 (v := ?_) ?_ ?_
  rotate_left
  ·(intro wz hSw; have q := hSw.1; go_simp; with_reducible rfl)
  (try simp only [Act.put, nA, nB, nC])
  clear hHeld
  refine wpAnyM_fourS 15 30 45 60 rfl rfl rfl rfl (by kernel_rfl) (fun K hK => ?_) (fun K hK => ?_) (fun K hK => ?_) (fun K hK => ?_)
  ·refine if_pos_of (by rfl) (wp_bsl4q (.tmp 20) (.tmp 23) (.tmp 26) (.tmp 29) rfl rfl rfl rfl rfl ?_); obtain ⟨x0, hb⟩ : ∃ x, wx.heap.size = x := ⟨_, rfl⟩; have HX0 := Lib.hid (rm_sl HS.out (q4 b0 (-b1) (-b2) (-b3)) x0 hb); have hBB := (Below.refl wx.heap.size wx).alloc (Nat.le_refl _) (.cells (arrv 4 (q4 b0 (-b1) (-b2) (-b3))) 2); (try (have HY := Lib.hid (And.intro (HX1.out.1.below hBB) HX1.out.2); clear HX1; have HX1 := HY; clear HY)); (try (have HY := Lib.hid (And.intro (HX2.out.1.below hBB) HX2.out.2); clear HX2; have HX2 := HY; clear HY)); (try (have HY := Lib.hid (And.intro (HX3.out.1.below hBB) HX3.out.2); clear HX3; have HX3 := HY; clear HY)); have HS2 := Lib.hid (HS.out.down hBB); clear HS; have HS := HS2; clear HS2 hBB; (rw [hb]); clear hb; generalize wx.alloc (.cells (arrv 4 (q4 b0 (-b1) (-b2) (-b3))) 2) = wn at *
   refine hK.out _ _ ?_ (fun hHeld => ?_)
   ·exact CB.out _ HS.out.e2
   clear hK K
   (try simp only [Act.put, nA, nB, nC])
   clear hHeld
   revert HX0
   revert HS
   revert x0
   revert wn
   intro wx x0 HS HX0
   refine wpAnyM_fourS 16 30 45 60 rfl rfl rfl rfl (by kernel_rfl) (fun K hK => ?_) (fun K hK => ?_) (fun K hK => ?_) (fun K hK => ?_)
   ·go_simp
    (refine (DC0.out _ x0 HS.out.cell HS.out.free HS.out.e1 HX0.out.1).mono ?_); rintro e wn ⟨rfl, hu⟩; clear HX0; (try (have HY := Lib.hid (And.intro (HX1.out.1.upd hu HX1.out.2) HX1.out.2); clear HX1; have HX1 := HY; clear HY)); (try (have HY := Lib.hid (And.intro (HX2.out.1.upd hu HX2.out.2) HX2.out.2); clear HX2; have HX2 := HY; clear HY)); (try (have HY := Lib.hid (And.intro (HX3.out.1.upd hu HX3.out.2) HX3.out.2); clear HX3; have HX3 := HY; clear HY)); have HS2 := Lib.hid (HS.out.upd' hu); clear HS hu; have HS := HS2; clear HS2
    (try dsimp only)
    (try simp only [Act.put, nA, nB, nC])
    refine hK.out _ _ ?_ (fun hHeld => ?_)
    ·exact CB.out _ HS.out.e2
    clear hK K
    (try simp only [Act.put, nA, nB, nC])
    clear hHeld
    revert HS
    revert x0
    revert wn
    intro wx x0 HS
    refine wpAnyM_threeS 30 45 60 rfl rfl rfl (by kernel_rfl) (fun K hK => ?_) (fun K hK => ?_) (fun K hK => ?_)
    ·refine if_pos_of (by rfl) (wp_bsl4q (.tmp 37) (.tmp 39) (.tmp 41) (.tmp 44) rfl rfl rfl rfl rfl ?_); obtain ⟨x1, hb⟩ : ∃ x, wx.heap.size = x := ⟨_, rfl⟩; have HX1 := Lib.hid (rm_sl HS.out (q4 b1 b0 b3 (-b2)) x1 hb); have hBB := (Below.refl wx.heap.size wx).alloc (Nat.le_refl _) (.cells (arrv 4 (q4 b1 b0 b3 (-b2))) 2); (try (have HY := Lib.hid (And.intro (HX0.out.1.below hBB) HX0.out.2); clear HX0; have HX0 := HY; clear HY)); (try (have HY := Lib.hid (And.intro (HX2.out.1.below hBB) HX2.out.2); clear HX2; have HX2 := HY; clear HY)); (try (have HY := Lib.hid (And.intro (HX3.out.1.below hBB) HX3.out.2); clear HX3; have HX3 := HY; clear HY)); have HS2 := Lib.hid (HS.out.down hBB); clear HS; have HS := HS2; clear HS2 hBB; (rw [hb]); clear hb; generalize wx.alloc (.cells (arrv 4 (q4 b1 b0 b3 (-b2))) 2) = wn at *
     refine hK.out _ _ ?_ (fun hHeld => ?_)
     ·exact CB.out _ HS.out.e2
     clear hK K
     (try simp only [Act.put, nA, nB, nC])
     clear hHeld
     revert HX1
     revert HS
     revert x1
     revert x0
     revert wn
     exact SH7.out
    ·refine if_pos_of (by rfl) (wp_bsl4q (.tmp 52) (.tmp 55) (.tmp 57) (.tmp 59) rfl rfl rfl rfl rfl ?_); obtain ⟨x2, hb⟩ : ∃ x, wx.heap.size = x := ⟨_, rfl⟩; have HX2 := Lib.hid (rm_sl HS.out (q4 b2 (-b3) b0 b1) x2 hb); have hBB := (Below.refl wx.heap.size wx).alloc (Nat.le_refl _) (.cells (arrv 4 (q4 b2 (-b3) b0 b1)) 2); (try (have HY := Lib.hid (And.intro (HX0.out.1.below hBB) HX0.out.2); clear HX0; have HX0 := HY; clear HY)); (try (have HY := Lib.hid (And.intro (HX1.out.1.below hBB) HX1.out.2); clear HX1; have HX1 := HY; clear HY)); (try (have HY := Lib.hid (And.intro (HX3.out.1.below hBB) HX3.out.2); clear HX3; have HX3 := HY; clear HY)); have HS2 := Lib.hid (HS.out.down hBB); clear HS; have HS := HS2; clear HS2 hBB; (rw [hb]); clear hb; generalize wx.alloc (.cells (arrv 4 (q4 b2 (-b3) b0 b1)) 2) = wn at *
     refine hK.out _ _ ?_ (fun hHeld => ?_)
     ·exact CB.out _ HS.out.e2
     clear hK K
     (try simp only [Act.put, nA, nB, nC])
     clear hHeld
     revert HX2
     revert HS
     revert x2
     revert x0
     revert wn
     exact SH8.out
    ·refine if_pos_of (by rfl) (wp_bsl4q (.tmp 67) (.tmp 69) (.tmp 72) (.tmp 74) rfl rfl rfl rfl rfl ?_); obtain ⟨x3, hb⟩ : ∃ x, wx.heap.size = x := ⟨_, rfl⟩; have HX3 := Lib.hid (rm_sl HS.out (q4 b3 b2 (-b1) b0) x3 hb); have hBB := (Below.refl wx.heap.size wx).alloc (Nat.le_refl _) (.cells (arrv 4 (q4 b3 b2 (-b1) b0)) 2); (try (have HY := Lib.hid (And.intro (HX0.out.1.below hBB) HX0.out.2); clear HX0; have HX0 := HY; clear HY)); (try (have HY := Lib.hid (And.intro (HX1.out.1.below hBB) HX1.out.2); clear HX1; have HX1 := HY; clear HY)); (try (have HY := Lib.hid (And.intro (HX2.out.1.below hBB) HX2.out.2); clear HX2; have HX2 := HY; clear HY)); have HS2 := Lib.hid (HS.out.down hBB); clear HS; have HS := HS2; clear HS2 hBB; (rw [hb]); clear hb; generalize wx.alloc (.cells (arrv 4 (q4 b3 b2 (-b1) b0)) 2) = wn at *
     refine hK.out _ _ ?_ (fun hHeld => ?_)
     ·exact CB.out _ HS.out.e2
     clear hK K
     (try simp only [Act.put, nA, nB, nC])
     clear hHeld
     revert HX3
     revert HS
     revert x3
     revert x0
     revert wn
     exact SH9.out
   ·refine if_pos_of (by rfl) (wp_bsl4q (.tmp 37) (.tmp 39) (.tmp 41) (.tmp 44) rfl rfl rfl rfl rfl ?_); obtain ⟨x1, hb⟩ : ∃ x, wx.heap.size = x := ⟨_, rfl⟩; have HX1 := Lib.hid (rm_sl HS.out (q4 b1 b0 b3 (-b2)) x1 hb); have hBB := (Below.refl wx.heap.size wx).alloc (Nat.le_refl _) (.cells (arrv 4 (q4 b1 b0 b3 (-b2))) 2); (try (have HY := Lib.hid (And.intro (HX0.out.1.below hBB) HX0.out.2); clear HX0; have HX0 := HY; clear HY)); (try (have HY := Lib.hid (And.intro (HX2.out.1.below hBB) HX2.out.2); clear HX2; have HX2 := HY; clear HY)); (try (have HY := Lib.hid (And.intro (HX3.out.1.below hBB) HX3.out.2); clear HX3; have HX3 := HY; clear HY)); have HS2 := Lib.hid (HS.out.down hBB); clear HS; have HS := HS2; clear HS2 hBB; (rw [hb]); clear hb; generalize wx.alloc (.cells (arrv 4 (q4 b1 b0 b3 (-b2))) 2) = wn at *
    refine hK.out _ _ ?_ (fun hHeld => ?_)
    ·exact CB.out _ HS.out.e2
    clear hK K
    (try simp only [Act.put, nA, nB, nC])
    clear hHeld
    revert HX1
    revert HX0
    revert HS
    revert x1
    revert x0
    revert wn
    exact SH1.out
   ·refine if_pos_of (by rfl) (wp_bsl4q (.tmp 52) (.tmp 55) (.tmp 57) (.tmp 59) rfl rfl rfl rfl rfl ?_); obtain ⟨x2, hb⟩ : ∃ x, wx.heap.size = x := ⟨_, rfl⟩; have HX2 := Lib.hid (rm_sl HS.out (q4 b2 (-b3) b0 b1) x2 hb); have hBB := (Below.refl wx.heap.size wx).alloc (Nat.le_refl _) (.cells (arrv 4 (q4 b2 (-b3) b0 b1)) 2); (try (have HY := Lib.hid (And.intro (HX0.out.1.below hBB) HX0.out.2); clear HX0; have HX0 := HY; clear HY)); (try (have HY := Lib.hid (And.intro (HX1.out.1.below hBB) HX1.out.2); clear HX1; have HX1 := HY; clear HY)); (try (have HY := Lib.hid (And.intro (HX3.out.1.below hBB) HX3.out.2); clear HX3; have HX3 := HY; clear HY)); have HS2 := Lib.hid (HS.out.down hBB); clear HS; have HS := HS2; clear HS2 hBB; (rw [hb]); clear hb; generalize wx.alloc (.cells (arrv 4 (q4 b2 (-b3) b0 b1)) 2) = wn at *
    refine hK.out _ _ ?_ (fun hHeld => ?_)
    ·exact CB.out _ HS.out.e2
    clear hK K
    (try simp only [Act.put, nA, nB, nC])
    clear hHeld
    revert HX2
    revert HX0
    revert HS
    revert x2
    revert x0
    revert wn
    exact SH2.out
   ·refine if_pos_of (by rfl) (wp_bsl4q (.tmp 67) (.tmp 69) (.tmp 72) (.tmp 74) rfl rfl rfl rfl rfl ?_); obtain ⟨x3, hb⟩ : ∃ x, wx.heap.size = x := ⟨_, rfl⟩; have HX3 := Lib.hid (rm_sl HS.out (q4 b3 b2 (-b1) b0) x3 hb); have hBB := (Below.refl wx.heap.size wx).alloc (Nat.le_refl _) (.cells (arrv 4 (q4 b3 b2 (-b1) b0)) 2); (try (have HY := Lib.hid (And.intro (HX0.out.1.below hBB) HX0.out.2); clear HX0; have HX0 := HY; clear HY)); (try (have HY := Lib.hid (And.intro (HX1.out.1.below hBB) HX1.out.2); clear HX1; have HX1 := HY; clear HY)); (try (have HY := Lib.hid (And.intro (HX2.out.1.below hBB) HX2.out.2); clear HX2; have HX2 := HY; clear HY)); have HS2 := Lib.hid (HS.out.down hBB); clear HS; have HS := HS2; clear HS2 hBB; (rw [hb]); clear hb; generalize wx.alloc (.cells (arrv 4 (q4 b3 b2 (-b1) b0)) 2) = wn at *
    refine hK.out _ _ ?_ (fun hHeld => ?_)
    ·exact CB.out _ HS.out.e2
    clear hK K
    (try simp only [Act.put, nA, nB, nC])
    clear hHeld
    revert HX3
    revert HX0
    revert HS
    revert x3
    revert x0
    revert wn
    exact SH3.out
  ·refine if_pos_of (by rfl) (wp_bsl4q (.tmp 37) (.tmp 39) (.tmp 41) (.tmp 44) rfl rfl rfl rfl rfl ?_); obtain ⟨x1, hb⟩ : ∃ x, wx.heap.size = x := ⟨_, rfl⟩; have HX1 := Lib.hid (rm_sl HS.out (q4 b1 b0 b3 (-b2)) x1 hb); have hBB := (Below.refl wx.heap.size wx).alloc (Nat.le_refl _) (.cells (arrv 4 (q4 b1 b0 b3 (-b2))) 2); (try (have HY := Lib.hid (And.intro (HX0.out.1.below hBB) HX0.out.2); clear HX0; have HX0 := HY; clear HY)); (try (have HY := Lib.hid (And.intro (HX2.out.1.below hBB) HX2.out.2); clear HX2; have HX2 := HY; clear HY)); (try (have HY := Lib.hid (And.intro (HX3.out.1.below hBB) HX3.out.2); clear HX3; have HX3 := HY; clear HY)); have HS2 := Lib.hid (HS.out.down hBB); clear HS; have HS := HS2; clear HS2 hBB; (rw [hb]); clear hb; generalize wx.alloc (.cells (arrv 4 (q4 b1 b0 b3 (-b2))) 2) = wn at *
   refine hK.out _ _ ?_ (fun hHeld => ?_)
   ·exact CB.out _ HS.out.e2
   clear hK K
   (try simp only [Act.put, nA, nB, nC])
   clear hHeld
   revert HX1
   revert HS
   revert x1
   revert wn
   intro wx x1 HS HX1
   refine wpAnyM_threeS 15 45 60 rfl rfl rfl (by kernel_rfl) (fun K hK => ?_) (fun K hK => ?_) (fun K hK => ?_)
   ·refine if_pos_of (by rfl) (wp_bsl4q (.tmp 20) (.tmp 23) (.tmp 26) (.tmp 29) rfl rfl rfl rfl rfl ?_); obtain ⟨x0, hb⟩ : ∃ x, wx.heap.size = x := ⟨_, rfl⟩; have HX0 := Lib.hid (rm_sl HS.out (q4 b0 (-b1) (-b2) (-b3)) x0 hb); have hBB := (Below.refl wx.heap.size wx).alloc (Nat.le_refl _) (.cells (arrv 4 (q4 b0 (-b1) (-b2) (-b3))) 2); (try (have HY := Lib.hid (And.intro (HX1.out.1.below hBB) HX1.out.2); clear HX1; have HX1 := HY; clear HY)); (try (have HY := Lib.hid (And.intro (HX2.out.1.below hBB) HX2.out.2); clear HX2; have HX2 := HY; clear HY)); (try (have HY := Lib.hid (And.intro (HX3.out.1.below hBB) HX3.out.2); clear HX3; have HX3 := HY; clear HY)); have HS2 := Lib.hid (HS.out.down hBB); clear HS; have HS := HS2; clear HS2 hBB; (rw [hb]); clear hb; generalize wx.alloc (.cells (arrv 4 (q4 b0 (-b1) (-b2) (-b3))) 2) = wn at *
    refine hK.out _ _ ?_ (fun hHeld => ?_)
    ·exact CB.out _ HS.out.e2
    clear hK K
    (try simp only [Act.put, nA, nB, nC])
    exact SH1.out _ _ _ HS HX0 HX1
   ·refine if_pos_of (by rfl) (wp_bsl4q (.tmp 52) (.tmp 55) (.tmp 57) (.tmp 59) rfl rfl rfl rfl rfl ?_); obtain ⟨x2, hb⟩ : ∃ x, wx.heap.size = x := ⟨_, rfl⟩; have HX2 := Lib.hid (rm_sl HS.out (q4 b2 (-b3) b0 b1) x2 hb); have hBB := (Below.refl wx.heap.size wx).alloc (Nat.le_refl _) (.cells (arrv 4 (q4 b2 (-b3) b0 b1)) 2); (try (have HY := Lib.hid (And.intro (HX0.out.1.below hBB) HX0.out.2); clear HX0; have HX0 := HY; clear HY)); (try (have HY := Lib.hid (And.intro (HX1.out.1.below hBB) HX1.out.2); clear HX1; have HX1 := HY; clear HY)); (try (have HY := Lib.hid (And.intro (HX3.out.1.below hBB) HX3.out.2); clear HX3; have HX3 := HY; clear HY)); have HS2 := Lib.hid (HS.out.down hBB); clear HS; have HS := HS2; clear HS2 hBB; (rw [hb]); clear hb; generalize wx.alloc (.cells (arrv 4 (q4 b2 (-b3) b0 b1)) 2) = wn at *
    refine hK.out _ _ ?_ (fun hHeld => ?_)
    ·exact CB.out _ HS.out.e2
    clear hK K
    (try simp only [Act.put, nA, nB, nC])
    clear hHeld
    revert HX2
    revert HX1
    revert HS
    revert x2
    revert x1
    revert wn
    exact SH4.out
   ·refine if_pos_of (by rfl) (wp_bsl4q (.tmp 67) (.tmp 69) (.tmp 72) (.tmp 74) rfl rfl rfl rfl rfl ?_); obtain ⟨x3, hb⟩ : ∃ x, wx.heap.size = x := ⟨_, rfl⟩; have HX3 := Lib.hid (rm_sl HS.out (q4 b3 b2 (-b1) b0) x3 hb); have hBB := (Below.refl wx.heap.size wx).alloc (Nat.le_refl _) (.cells (arrv 4 (q4 b3 b2 (-b1) b0)) 2); (try (have HY := Lib.hid (And.intro (HX0.out.1.below hBB) HX0.out.2); clear HX0; have HX0 := HY; clear HY)); (try (have HY := Lib.hid (And.intro (HX1.out.1.below hBB) HX1.out.2); clear HX1; have HX1 := HY; clear HY)); (try (have HY := Lib.hid (And.intro (HX2.out.1.below hBB) HX2.out.2); clear HX2; have HX2 := HY; clear HY)); have HS2 := Lib.hid (HS.out.down hBB); clear HS; have HS := HS2; clear HS2 hBB; (rw [hb]); clear hb; generalize wx.alloc (.cells (arrv 4 (q4 b3 b2 (-b1) b0)) 2) = wn at *
    refine hK.out _ _ ?_ (fun hHeld => ?_)
    ·exact CB.out _ HS.out.e2
    clear hK K
    (try simp only [Act.put, nA, nB, nC])
    clear hHeld
    revert HX3
    revert HX1
    revert HS
    revert x3
    revert x1
    revert wn
    exact SH5.out
  ·refine if_pos_of (by rfl) (wp_bsl4q (.tmp 52) (.tmp 55) (.tmp 57) (.tmp 59) rfl rfl rfl rfl rfl ?_); obtain ⟨x2, hb⟩ : ∃ x, wx.heap.size = x := ⟨_, rfl⟩; have HX2 := Lib.hid (rm_sl HS.out (q4 b2 (-b3) b0 b1) x2 hb); have hBB := (Below.refl wx.heap.size wx).alloc (Nat.le_refl _) (.cells (arrv 4 (q4 b2 (-b3) b0 b1)) 2); (try (have HY := Lib.hid (And.intro (HX0.out.1.below hBB) HX0.out.2); clear HX0; have HX0 := HY; clear HY)); (try (have HY := Lib.hid (And.intro (HX1.out.1.below hBB) HX1.out.2); clear HX1; have HX1 := HY; clear HY)); (try (have HY := Lib.hid (And.intro (HX3.out.1.below hBB) HX3.out.2); clear HX3; have HX3 := HY; clear HY)); have HS2 := Lib.hid (HS.out.down hBB); clear HS; have HS := HS2; clear HS2 hBB; (rw [hb]); clear hb; generalize wx.alloc (.cells (arrv 4 (q4 b2 (-b3) b0 b1)) 2) = wn at *
   refine hK.out _ _ ?_ (fun hHeld => ?_)
   ·exact CB.out _ HS.out.e2
   clear hK K
   (try simp only [Act.put, nA, nB, nC])
   clear hHeld
   revert HX2
   revert HS
   revert x2
   revert wn
   intro wx x2 HS HX2
   refine wpAnyM_threeS 15 30 60 rfl rfl rfl (by kernel_rfl) (fun K hK => ?_) (fun K hK => ?_) (fun K hK => ?_)
   ·refine if_pos_of (by rfl) (wp_bsl4q (.tmp 20) (.tmp 23) (.tmp 26) (.tmp 29) rfl rfl rfl rfl rfl ?_); obtain ⟨x0, hb⟩ : ∃ x, wx.heap.size = x := ⟨_, rfl⟩; have HX0 := Lib.hid (rm_sl HS.out (q4 b0 (-b1) (-b2) (-b3)) x0 hb); have hBB := (Below.refl wx.heap.size wx).alloc (Nat.le_refl _) (.cells (arrv 4 (q4 b0 (-b1) (-b2) (-b3))) 2); (try (have HY := Lib.hid (And.intro (HX1.out.1.below hBB) HX1.out.2); clear HX1; have HX1 := HY; clear HY)); (try (have HY := Lib.hid (And.intro (HX2.out.1.below hBB) HX2.out.2); clear HX2; have HX2 := HY; clear HY)); (try (have HY := Lib.hid (And.intro (HX3.out.1.below hBB) HX3.out.2); clear HX3; have HX3 := HY; clear HY)); have HS2 := Lib.hid (HS.out.down hBB); clear HS; have HS := HS2; clear HS2 hBB; (rw [hb]); clear hb; generalize wx.alloc (.cells (arrv 4 (q4 b0 (-b1) (-b2) (-b3))) 2) = wn at *
    refine hK.out _ _ ?_ (fun hHeld => ?_)
    ·exact CB.out _ HS.out.e2
    clear hK K
    (try simp only [Act.put, nA, nB, nC])
    exact SH2.out _ _ _ HS HX0 HX2
   ·refine if_pos_of (by rfl) (wp_bsl4q (.tmp 37) (.tmp 39) (.tmp 41) (.tmp 44) rfl rfl rfl rfl rfl ?_); obtain ⟨x1, hb⟩ : ∃ x, wx.heap.size = x := ⟨_, rfl⟩; have HX1 := Lib.hid (rm_sl HS.out (q4 b1 b0 b3 (-b2)) x1 hb); have hBB := (Below.refl wx.heap.size wx).alloc (Nat.le_refl _) (.cells (arrv 4 (q4 b1 b0 b3 (-b2))) 2); (try (have HY := Lib.hid (And.intro (HX0.out.1.below hBB) HX0.out.2); clear HX0; have HX0 := HY; clear HY)); (try (have HY := Lib.hid (And.intro (HX2.out.1.below hBB) HX2.out.2); clear HX2; have HX2 := HY; clear HY)); (try (have HY := Lib.hid (And.intro (HX3.out.1.below hBB) HX3.out.2); clear HX3; have HX3 := HY; clear HY)); have HS2 := Lib.hid (HS.out.down hBB); clear HS; have HS := HS2; clear HS2 hBB; (rw [hb]); clear hb; generalize wx.alloc (.cells (arrv 4 (q4 b1 b0 b3 (-b2))) 2) = wn at *
    refine hK.out _ _ ?_ (fun hHeld => ?_)
    ·exact CB.out _ HS.out.e2
    clear hK K
    (try simp only [Act.put, nA, nB, nC])
    exact SH4.out _ _ _ HS HX1 HX2
   ·refine if_pos_of (by rfl) (wp_bsl4q (.tmp 67) (.tmp 69) (.tmp 72) (.tmp 74) rfl rfl rfl rfl rfl ?_); obtain ⟨x3, hb⟩ : ∃ x, wx.heap.size = x := ⟨_, rfl⟩; have HX3 := Lib.hid (rm_sl HS.out (q4 b3 b2 (-b1) b0) x3 hb); have hBB := (Below.refl wx.heap.size wx).alloc (Nat.le_refl _) (.cells (arrv 4 (q4 b3 b2 (-b1) b0)) 2); (try (have HY := Lib.hid (And.intro (HX0.out.1.below hBB) HX0.out.2); clear HX0; have HX0 := HY; clear HY)); (try (have HY := Lib.hid (And.intro (HX1.out.1.below hBB) HX1.out.2); clear HX1; have HX1 := HY; clear HY)); (try (have HY := Lib.hid (And.intro (HX2.out.1.below hBB) HX2.out.2); clear HX2; have HX2 := HY; clear HY)); have HS2 := Lib.hid (HS.out.down hBB); clear HS; have HS := HS2; clear HS2 hBB; (rw [hb]); clear hb; generalize wx.alloc (.cells (arrv 4 (q4 b3 b2 (-b1) b0)) 2) = wn at *
    refine hK.out _ _ ?_ (fun hHeld => ?_)
    ·exact CB.out _ HS.out.e2
    clear hK K
    (try simp only [Act.put, nA, nB, nC])
    clear hHeld
    revert HX3
    revert HX2
    revert HS
    revert x3
    revert x2
    revert wn
    exact SH6.out
  ·refine if_pos_of (by rfl) (wp_bsl4q (.tmp 67) (.tmp 69) (.tmp 72) (.tmp 74) rfl rfl rfl rfl rfl ?_); obtain ⟨x3, hb⟩ : ∃ x, wx.heap.size = x := ⟨_, rfl⟩; have HX3 := Lib.hid (rm_sl HS.out (q4 b3 b2 (-b1) b0) x3 hb); have hBB := (Below.refl wx.heap.size wx).alloc (Nat.le_refl _) (.cells (arrv 4 (q4 b3 b2 (-b1) b0)) 2); (try (have HY := Lib.hid (And.intro (HX0.out.1.below hBB) HX0.out.2); clear HX0; have HX0 := HY; clear HY)); (try (have HY := Lib.hid (And.intro (HX1.out.1.below hBB) HX1.out.2); clear HX1; have HX1 := HY; clear HY)); (try (have HY := Lib.hid (And.intro (HX2.out.1.below hBB) HX2.out.2); clear HX2; have HX2 := HY; clear HY)); have HS2 := Lib.hid (HS.out.down hBB); clear HS; have HS := HS2; clear HS2 hBB; (rw [hb]); clear hb; generalize wx.alloc (.cells (arrv 4 (q4 b3 b2 (-b1) b0)) 2) = wn at *
   refine hK.out _ _ ?_ (fun hHeld => ?_)
   ·exact CB.out _ HS.out.e2
   clear hK K
   (try simp only [Act.put, nA, nB, nC])
   clear hHeld
   revert HX3
   revert HS
   revert x3
   revert wn
   intro wx x3 HS HX3
   refine wpAnyM_threeS 15 30 45 rfl rfl rfl (by kernel_rfl) (fun K hK => ?_) (fun K hK => ?_) (fun K hK => ?_)
   ·refine if_pos_of (by rfl) (wp_bsl4q (.tmp 20) (.tmp 23) (.tmp 26) (.tmp 29) rfl rfl rfl rfl rfl ?_); obtain ⟨x0, hb⟩ : ∃ x, wx.heap.size = x := ⟨_, rfl⟩; have HX0 := Lib.hid (rm_sl HS.out (q4 b0 (-b1) (-b2) (-b3)) x0 hb); have hBB := (Below.refl wx.heap.size wx).alloc (Nat.le_refl _) (.cells (arrv 4 (q4 b0 (-b1) (-b2) (-b3))) 2); (try (have HY := Lib.hid (And.intro (HX1.out.1.below hBB) HX1.out.2); clear HX1; have HX1 := HY; clear HY)); (try (have HY := Lib.hid (And.intro (HX2.out.1.below hBB) HX2.out.2); clear HX2; have HX2 := HY; clear HY)); (try (have HY := Lib.hid (And.intro (HX3.out.1.below hBB) HX3.out.2); clear HX3; have HX3 := HY; clear HY)); have HS2 := Lib.hid (HS.out.down hBB); clear HS; have HS := HS2; clear HS2 hBB; (rw [hb]); clear hb; generalize wx.alloc (.cells (arrv 4 (q4 b0 (-b1) (-b2) (-b3))) 2) = wn at *
    refine hK.out _ _ ?_ (fun hHeld => ?_)
    ·exact CB.out _ HS.out.e2
    clear hK K
    (try simp only [Act.put, nA, nB, nC])
    exact SH3.out _ _ _ HS HX0 HX3
   ·refine if_pos_of (by rfl) (wp_bsl4q (.tmp 37) (.tmp 39) (.tmp 41) (.tmp 44) rfl rfl rfl rfl rfl ?_); obtain ⟨x1, hb⟩ : ∃ x, wx.heap.size = x := ⟨_, rfl⟩; have HX1 := Lib.hid (rm_sl HS.out (q4 b1 b0 b3 (-b2)) x1 hb); have hBB := (Below.refl wx.heap.size wx).alloc (Nat.le_refl _) (.cells (arrv 4 (q4 b1 b0 b3 (-b2))) 2); (try (have HY := Lib.hid (And.intro (HX0.out.1.below hBB) HX0.out.2); clear HX0; have HX0 := HY; clear HY)); (try (have HY := Lib.hid (And.intro (HX2.out.1.below hBB) HX2.out.2); clear HX2; have HX2 := HY; clear HY)); (try (have HY := Lib.hid (And.intro (HX3.out.1.below hBB) HX3.out.2); clear HX3; have HX3 := HY; clear HY)); have HS2 := Lib.hid (HS.out.down hBB); clear HS; have HS := HS2; clear HS2 hBB; (rw [hb]); clear hb; generalize wx.alloc (.cells (arrv 4 (q4 b1 b0 b3 (-b2))) 2) = wn at *
    refine hK.out _ _ ?_ (fun hHeld => ?_)
    ·exact CB.out _ HS.out.e2
    clear hK K
    (try simp only [Act.put, nA, nB, nC])
    exact SH5.out _ _ _ HS HX1 HX3
   ·refine if_pos_of (by rfl) (wp_bsl4q (.tmp 52) (.tmp 55) (.tmp 57) (.tmp 59) rfl rfl rfl rfl rfl ?_); obtain ⟨x2, hb⟩ : ∃ x, wx.heap.size = x := ⟨_, rfl⟩; have HX2 := Lib.hid (rm_sl HS.out (q4 b2 (-b3) b0 b1) x2 hb); have hBB := (Below.refl wx.heap.size wx).alloc (Nat.le_refl _) (.cells (arrv 4 (q4 b2 (-b3) b0 b1)) 2); (try (have HY := Lib.hid (And.intro (HX0.out.1.below hBB) HX0.out.2); clear HX0; have HX0 := HY; clear HY)); (try (have HY := Lib.hid (And.intro (HX1.out.1.below hBB) HX1.out.2); clear HX1; have HX1 := HY; clear HY)); (try (have HY := Lib.hid (And.intro (HX3.out.1.below hBB) HX3.out.2); clear HX3; have HX3 := HY; clear HY)); have HS2 := Lib.hid (HS.out.down hBB); clear HS; have HS := HS2; clear HS2 hBB; (rw [hb]); clear hb; generalize wx.alloc (.cells (arrv 4 (q4 b2 (-b3) b0 b1)) 2) = wn at *
    refine hK.out _ _ ?_ (fun hHeld => ?_)
    ·exact CB.out _ HS.out.e2
    clear hK K
    (try simp only [Act.put, nA, nB, nC])
    exact SH6.out _ _ _ HS HX2 HX3
 case sp1 =>
  intro wx x0 x1 HS HX0 HX1
  refine wpAnyM_threeS 16 45 60 rfl rfl rfl (by kernel_rfl) (fun K hK => ?_) (fun K hK => ?_) (fun K hK => ?_)
  ·go_simp
   (refine (DC0.out _ x0 HS.out.cell HS.out.free HS.out.e1 HX0.out.1).mono ?_); rintro e wn ⟨rfl, hu⟩; clear HX0; (try (have HY := Lib.hid (And.intro (HX1.out.1.upd hu HX1.out.2) HX1.out.2); clear HX1; have HX1 := HY; clear HY)); (try (have HY := Lib.hid (And.intro (HX2.out.1.upd hu HX2.out.2) HX2.out.2); clear HX2; have HX2 := HY; clear HY)); (try (have HY := Lib.hid (And.intro (HX3.out.1.upd hu HX3.out.2) HX3.out.2); clear HX3; have HX3 := HY; clear HY)); have HS2 := Lib.hid (HS.out.upd' hu); clear HS hu; have HS := HS2; clear HS2
   (try dsimp only)
   (try simp only [Act.put, nA, nB, nC])
   refine hK.out _ _ ?_ (fun hHeld => ?_)
   ·exact CB.out _ HS.out.e2
   clear hK K
   (try simp only [Act.put, nA, nB, nC])
   exact SH7.out _ _ _ HS HX1
  ·refine if_pos_of (by rfl) (wp_bsl4q (.tmp 52) (.tmp 55) (.tmp 57) (.tmp 59) rfl rfl rfl rfl rfl ?_); obtain ⟨x2, hb⟩ : ∃ x, wx.heap.size = x := ⟨_, rfl⟩; have HX2 := Lib.hid (rm_sl HS.out (q4 b2 (-b3) b0 b1) x2 hb); have hBB := (Below.refl wx.heap.size wx).alloc (Nat.le_refl _) (.cells (arrv 4 (q4 b2 (-b3) b0 b1)) 2); (try (have HY := Lib.hid (And.intro (HX0.out.1.below hBB) HX0.out.2); clear HX0; have HX0 := HY; clear HY)); (try (have HY := Lib.hid (And.intro (HX1.out.1.below hBB) HX1.out.2); clear HX1; have HX1 := HY; clear HY)); (try (have HY := Lib.hid (And.intro (HX3.out.1.below hBB) HX3.out.2); clear HX3; have HX3 := HY; clear HY)); have HS2 := Lib.hid (HS.out.down hBB); clear HS; have HS := HS2; clear HS2 hBB; (rw [hb]); clear hb; generalize wx.alloc (.cells (arrv 4 (q4 b2 (-b3) b0 b1)) 2) = wn at *
   refine hK.out _ _ ?_ (fun hHeld => ?_)
   ·exact CB.out _ HS.out.e2
   clear hK K
   (try simp only [Act.put, nA, nB, nC])
   clear hHeld
   revert HX2
   revert HX1
   revert HX0
   revert HS
   revert x2
   revert x1
   revert x0
   revert wn
   exact SH10.out
  ·refine if_pos_of (by rfl) (wp_bsl4q (.tmp 67) (.tmp 69) (.tmp 72) (.tmp 74) rfl rfl rfl rfl rfl ?_); obtain ⟨x3, hb⟩ : ∃ x, wx.heap.size = x := ⟨_, rfl⟩; have HX3 := Lib.hid (rm_sl HS.out (q4 b3 b2 (-b1) b0) x3 hb); have hBB := (Below.refl wx.heap.size wx).alloc (Nat.le_refl _) (.cells (arrv 4 (q4 b3 b2 (-b1) b0)) 2); (try (have HY := Lib.hid (And.intro (HX0.out.1.below hBB) HX0.out.2); clear HX0; have HX0 := HY; clear HY)); (try (have HY := Lib.hid (And.intro (HX1.out.1.below hBB) HX1.out.2); clear HX1; have HX1 := HY; clear HY)); (try (have HY := Lib.hid (And.intro (HX2.out.1.below hBB) HX2.out.2); clear HX2; have HX2 := HY; clear HY)); have HS2 := Lib.hid (HS.out.down hBB); clear HS; have HS := HS2; clear HS2 hBB; (rw [hb]); clear hb; generalize wx.alloc (.cells (arrv 4 (q4 b3 b2 (-b1) b0)) 2) = wn at *
   refine hK.out _ _ ?_ (fun hHeld => ?_)
   ·exact CB.out _ HS.out.e2
   clear hK K
   (try simp only [Act.put, nA, nB, nC])
   clear hHeld
   revert HX3
   revert HX1
   revert HX0
   revert HS
   revert x3
   revert x1
   revert x0
   revert wn
   exact SH11.out
 case sp2 =>
  intro wx x0 x2 HS HX0 HX2
  refine wpAnyM_threeS 16 30 60 rfl rfl rfl (by kernel_rfl) (fun K hK => ?_) (fun K hK => ?_) (fun K hK => ?_)
  ·go_simp
   (refine (DC0.out _ x0 HS.out.cell HS.out.free HS.out.e1 HX0.out.1).mono ?_); rintro e wn ⟨rfl, hu⟩; clear HX0; (try (have HY := Lib.hid (And.intro (HX1.out.1.upd hu HX1.out.2) HX1.out.2); clear HX1; have HX1 := HY; clear HY)); (try (have HY := Lib.hid (And.intro (HX2.out.1.upd hu HX2.out.2) HX2.out.2); clear HX2; have HX2 := HY; clear HY)); (try (have HY := Lib.hid (And.intro (HX3.out.1.upd hu HX3.out.2) HX3.out.2); clear HX3; have HX3 := HY; clear HY)); have HS2 := Lib.hid (HS.out.upd' hu); clear HS hu; have HS := HS2; clear HS2
   (try dsimp only)
   (try simp only [Act.put, nA, nB, nC])
   refine hK.out _ _ ?_ (fun hHeld => ?_)
   ·exact CB.out _ HS.out.e2
   clear hK K
   (try simp only [Act.put, nA, nB, nC])
   exact SH8.out _ _ _ HS HX2
  ·refine if_pos_of (by rfl) (wp_bsl4q (.tmp 37) (.tmp 39) (.tmp 41) (.tmp 44) rfl rfl rfl rfl rfl ?_); obtain ⟨x1, hb⟩ : ∃ x, wx.heap.size = x := ⟨_, rfl⟩; have HX1 := Lib.hid (rm_sl HS.out (q4 b1 b0 b3 (-b2)) x1 hb); have hBB := (Below.refl wx.heap.size wx).alloc (Nat.le_refl _) (.cells (arrv 4 (q4 b1 b0 b3 (-b2))) 2); (try (have HY := Lib.hid (And.intro (HX0.out.1.below hBB) HX0.out.2); clear HX0; have HX0 := HY; clear HY)); (try (have HY := Lib.hid (And.intro (HX2.out.1.below hBB) HX2.out.2); clear HX2; have HX2 := HY; clear HY)); (try (have HY := Lib.hid (And.intro (HX3.out.1.below hBB) HX3.out.2); clear HX3; have HX3 := HY; clear HY)); have HS2 := Lib.hid (HS.out.down hBB); clear HS; have HS := HS2; clear HS2 hBB; (rw [hb]); clear hb; generalize wx.alloc (.cells (arrv 4 (q4 b1 b0 b3 (-b2))) 2) = wn at *
   refine hK.out _ _ ?_ (fun hHeld => ?_)
   ·exact CB.out _ HS.out.e2
   clear hK K
   (try simp only [Act.put, nA, nB, nC])
   exact SH10.out _ _ _ _ HS HX0 HX1 HX2
  ·refine if_pos_of (by rfl) (wp_bsl4q (.tmp 67) (.tmp 69) (.tmp 72) (.tmp 74) rfl rfl rfl rfl rfl ?_); obtain ⟨x3, hb⟩ : ∃ x, wx.heap.size = x := ⟨_, rfl⟩; have HX3 := Lib.hid (rm_sl HS.out (q4 b3 b2 (-b1) b0) x3 hb); have hBB := (Below.refl wx.heap.size wx).alloc (Nat.le_refl _) (.cells (arrv 4 (q4 b3 b2 (-b1) b0)) 2); (try (have HY := Lib.hid (And.intro (HX0.out.1.below hBB) HX0.out.2); clear HX0; have HX0 := HY; clear HY)); (try (have HY := Lib.hid (And.intro (HX1.out.1.below hBB) HX1.out.2); clear HX1; have HX1 := HY; clear HY)); (try (have HY := Lib.hid (And.intro (HX2.out.1.below hBB) HX2.out.2); clear HX2; have HX2 := HY; clear HY)); have HS2 := Lib.hid (HS.out.down hBB); clear HS; have HS := HS2; clear HS2 hBB; (rw [hb]); clear hb; generalize wx.alloc (.cells (arrv 4 (q4 b3 b2 (-b1) b0)) 2) = wn at *
   refine hK.out _ _ ?_ (fun hHeld => ?_)
   ·exact CB.out _ HS.out.e2
   clear hK K
   (try simp only [Act.put, nA, nB, nC])
   clear hHeld
   revert HX3
   revert HX2
   revert HX0
   revert HS
   revert x3
   revert x2
   revert x0
   revert wn
   exact SH12.out
 case sp3 =>
  intro wx x0 x3 HS HX0 HX3
  refine wpAnyM_threeS 16 30 45 rfl rfl rfl (by kernel_rfl) (fun K hK => ?_) (fun K hK => ?_) (fun K hK => ?_)
  ·go_simp
   (refine (DC0.out _ x0 HS.out.cell HS.out.free HS.out.e1 HX0.out.1).mono ?_); rintro e wn ⟨rfl, hu⟩; clear HX0; (try (have HY := Lib.hid (And.intro (HX1.out.1.upd hu HX1.out.2) HX1.out.2); clear HX1; have HX1 := HY; clear HY)); (try (have HY := Lib.hid (And.intro (HX2.out.1.upd hu HX2.out.2) HX2.out.2); clear HX2; have HX2 := HY; clear HY)); (try (have HY := Lib.hid (And.intro (HX3.out.1.upd hu HX3.out.2) HX3.out.2); clear HX3; have HX3 := HY; clear HY)); have HS2 := Lib.hid (HS.out.upd' hu); clear HS hu; have HS := HS2; clear HS2
   (try dsimp only)
   (try simp only [Act.put, nA, nB, nC])
   refine hK.out _ _ ?_ (fun hHeld => ?_)
   ·exact CB.out _ HS.out.e2
   clear hK K
   (try simp only [Act.put, nA, nB, nC])
   exact SH9.out _ _ _ HS HX3
  ·refine if_pos_of (by rfl) (wp_bsl4q (.tmp 37) (.tmp 39) (.tmp 41) (.tmp 44) rfl rfl rfl rfl rfl ?_); obtain ⟨x1, hb⟩ : ∃ x, wx.heap.size = x := ⟨_, rfl⟩; have HX1 := Lib.hid (rm_sl HS.out (q4 b1 b0 b3 (-b2)) x1 hb); have hBB := (Below.refl wx.heap.size wx).alloc (Nat.le_refl _) (.cells (arrv 4 (q4 b1 b0 b3 (-b2))) 2); (try (have HY := Lib.hid (And.intro (HX0.out.1.below hBB) HX0.out.2); clear HX0; have HX0 := HY; clear HY)); (try (have HY := Lib.hid (And.intro (HX2.out.1.below hBB) HX2.out.2); clear HX2; have HX2 := HY; clear HY)); (try (have HY := Lib.hid (And.intro (HX3.out.1.below hBB) HX3.out.2); clear HX3; have HX3 := HY; clear HY)); have HS2 := Lib.hid (HS.out.down hBB); clear HS; have HS := HS2; clear HS2 hBB; (rw [hb]); clear hb; generalize wx.alloc (.cells (arrv 4 (q4 b1 b0 b3 (-b2))) 2) = wn at *
   refine hK.out _ _ ?_ (fun hHeld => ?_)
   ·exact CB.out _ HS.out.e2
   clear hK K
   (try simp only [Act.put, nA, nB, nC])
   exact SH11.out _ _ _ _ HS HX0 HX1 HX3
  ·refine if_pos_of (by rfl) (wp_bsl4q (.tmp 52) (.tmp 55) (.tmp 57) (.tmp 59) rfl rfl rfl rfl rfl ?_); obtain ⟨x2, hb⟩ : ∃ x, wx.heap.size = x := ⟨_, rfl⟩; have HX2 := Lib.hid (rm_sl HS.out (q4 b2 (-b3) b0 b1) x2 hb); have hBB := (Below.refl wx.heap.size wx).alloc (Nat.le_refl _) (.cells (arrv 4 (q4 b2 (-b3) b0 b1)) 2); (try (have HY := Lib.hid (And.intro (HX0.out.1.below hBB) HX0.out.2); clear HX0; have HX0 := HY; clear HY)); (try (have HY := Lib.hid (And.intro (HX1.out.1.below hBB) HX1.out.2); clear HX1; have HX1 := HY; clear HY)); (try (have HY := Lib.hid (And.intro (HX3.out.1.below hBB) HX3.out.2); clear HX3; have HX3 := HY; clear HY)); have HS2 := Lib.hid (HS.out.down hBB); clear HS; have HS := HS2; clear HS2 hBB; (rw [hb]); clear hb; generalize wx.alloc (.cells (arrv 4 (q4 b2 (-b3) b0 b1)) 2) = wn at *
   refine hK.out _ _ ?_ (fun hHeld => ?_)
   ·exact CB.out _ HS.out.e2
   clear hK K
   (try simp only [Act.put, nA, nB, nC])
   exact SH12.out _ _ _ _ HS HX0 HX2 HX3
 case sp4 =>
  intro wx x1 x2 HS HX1 HX2
  refine wpAnyM_twoS 15 60 rfl rfl (by kernel_rfl) (fun K hK => ?_) (fun K hK => ?_)
  ·refine if_pos_of (by rfl) (wp_bsl4q (.tmp 20) (.tmp 23) (.tmp 26) (.tmp 29) rfl rfl rfl rfl rfl ?_); obtain ⟨x0, hb⟩ : ∃ x, wx.heap.size = x := ⟨_, rfl⟩; have HX0 := Lib.hid (rm_sl HS.out (q4 b0 (-b1) (-b2) (-b3)) x0 hb); have hBB := (Below.refl wx.heap.size wx).alloc (Nat.le_refl _) (.cells (arrv 4 (q4 b0 (-b1) (-b2) (-b3))) 2); (try (have HY := Lib.hid (And.intro (HX1.out.1.below hBB) HX1.out.2); clear HX1; have HX1 := HY; clear HY)); (try (have HY := Lib.hid (And.intro (HX2.out.1.below hBB) HX2.out.2); clear HX2; have HX2 := HY; clear HY)); (try (have HY := Lib.hid (And.intro (HX3.out.1.below hBB) HX3.out.2); clear HX3; have HX3 := HY; clear HY)); have HS2 := Lib.hid (HS.out.down hBB); clear HS; have HS := HS2; clear HS2 hBB; (rw [hb]); clear hb; generalize wx.alloc (.cells (arrv 4 (q4 b0 (-b1) (-b2) (-b3))) 2) = wn at *
   refine hK.out _ _ ?_ (fun hHeld => ?_)
   ·exact CB.out _ HS.out.e2
   clear hK K
   (try simp only [Act.put, nA, nB, nC])
   exact SH10.out _ _ _ _ HS HX0 HX1 HX2
  ·refine if_pos_of (by rfl) (wp_bsl4q (.tmp 67) (.tmp 69) (.tmp 72) (.tmp 74) rfl rfl rfl rfl rfl ?_); obtain ⟨x3, hb⟩ : ∃ x, wx.heap.size = x := ⟨_, rfl⟩; have HX3 := Lib.hid (rm_sl HS.out (q4 b3 b2 (-b1) b0) x3 hb); have hBB := (Below.refl wx.heap.size wx).alloc (Nat.le_refl _) (.cells (arrv 4 (q4 b3 b2 (-b1) b0)) 2); (try (have HY := Lib.hid (And.intro (HX0.out.1.below hBB) HX0.out.2); clear HX0; have HX0 := HY; clear HY)); (try (have HY := Lib.hid (And.intro (HX1.out.1.below hBB) HX1.out.2); clear HX1; have HX1 := HY; clear HY)); (try (have HY := Lib.hid (And.intro (HX2.out.1.below hBB) HX2.out.2); clear HX2; have HX2 := HY; clear HY)); have HS2 := Lib.hid (HS.out.down hBB); clear HS; have HS := HS2; clear HS2 hBB; (rw [hb]); clear hb; generalize wx.alloc (.cells (arrv 4 (q4 b3 b2 (-b1) b0)) 2) = wn at *
   refine hK.out _ _ ?_ (fun hHeld => ?_)
   ·exact CB.out _ HS.out.e2
   clear hK K
   (try simp only [Act.put, nA, nB, nC])
   clear hHeld
   revert HX3
   revert HX2
   revert HX1
   revert HS
   revert x3
   revert x2
   revert x1
   revert wn
   exact SH13.out
 case sp5 =>
  intro wx x1 x3 HS HX1 HX3
  refine wpAnyM_twoS 15 45 rfl rfl (by kernel_rfl) (fun K hK => ?_) (fun K hK => ?_)
  ·refine if_pos_of (by rfl) (wp_bsl4q (.tmp 20) (.tmp 23) (.tmp 26) (.tmp 29) rfl rfl rfl rfl rfl ?_); obtain ⟨x0, hb⟩ : ∃ x, wx.heap.size = x := ⟨_, rfl⟩; have HX0 := Lib.hid (rm_sl HS.out (q4 b0 (-b1) (-b2) (-b3)) x0 hb); have hBB := (Below.refl wx.heap.size wx).alloc (Nat.le_refl _) (.cells (arrv 4 (q4 b0 (-b1) (-b2) (-b3))) 2); (try (have HY := Lib.hid (And.intro (HX1.out.1.below hBB) HX1.out.2); clear HX1; have HX1 := HY; clear HY)); (try (have HY := Lib.hid (And.intro (HX2.out.1.below hBB) HX2.out.2); clear HX2; have HX2 := HY; clear HY)); (try (have HY := Lib.hid (And.intro (HX3.out.1.below hBB) HX3.out.2); clear HX3; have HX3 := HY; clear HY)); have HS2 := Lib.hid (HS.out.down hBB); clear HS; have HS := HS2; clear HS2 hBB; (rw [hb]); clear hb; generalize wx.alloc (.cells (arrv 4 (q4 b0 (-b1) (-b2) (-b3))) 2) = wn at *
   refine hK.out _ _ ?_ (fun hHeld => ?_)
   ·exact CB.out _ HS.out.e2
   clear hK K
   (try simp only [Act.put, nA, nB, nC])
   exact SH11.out _ _ _ _ HS HX0 HX1 HX3
  ·refine if_pos_of (by rfl) (wp_bsl4q (.tmp 52) (.tmp 55) (.tmp 57) (.tmp 59) rfl rfl rfl rfl rfl ?_); obtain ⟨x2, hb⟩ : ∃ x, wx.heap.size = x := ⟨_, rfl⟩; have HX2 := Lib.hid (rm_sl HS.out (q4 b2 (-b3) b0 b1) x2 hb); have hBB := (Below.refl wx.heap.size wx).alloc (Nat.le_refl _) (.cells (arrv 4 (q4 b2 (-b3) b0 b1)) 2); (try (have HY := Lib.hid (And.intro (HX0.out.1.below hBB) HX0.out.2); clear HX0; have HX0 := HY; clear HY)); (try (have HY := Lib.hid (And.intro (HX1.out.1.below hBB) HX1.out.2); clear HX1; have HX1 := HY; clear HY)); (try (have HY := Lib.hid (And.intro (HX3.out.1.below hBB) HX3.out.2); clear HX3; have HX3 := HY; clear HY)); have HS2 := Lib.hid (HS.out.down hBB); clear HS; have HS := HS2; clear HS2 hBB; (rw [hb]); clear hb; generalize wx.alloc (.cells (arrv 4 (q4 b2 (-b3) b0 b1)) 2) = wn at *
   refine hK.out _ _ ?_ (fun hHeld => ?_)
   ·exact CB.out _ HS.out.e2
   clear hK K
   (try simp only [Act.put, nA, nB, nC])
   exact SH13.out _ _ _ _ HS HX1 HX2 HX3
 case sp6 =>
  intro wx x2 x3 HS HX2 HX3
  refine wpAnyM_twoS 15 30 rfl rfl (by kernel_rfl) (fun K hK => ?_) (fun K hK => ?_)
  ·refine if_pos_of (by rfl) (wp_bsl4q (.tmp 20) (.tmp 23) (.tmp 26) (.tmp 29) rfl rfl rfl rfl rfl ?_); obtain ⟨x0, hb⟩ : ∃ x, wx.heap.size = x := ⟨_, rfl⟩; have HX0 := Lib.hid (rm_sl HS.out (q4 b0 (-b1) (-b2) (-b3)) x0 hb); have hBB := (Below.refl wx.heap.size wx).alloc (Nat.le_refl _) (.cells (arrv 4 (q4 b0 (-b1) (-b2) (-b3))) 2); (try (have HY := Lib.hid (And.intro (HX1.out.1.below hBB) HX1.out.2); clear HX1; have HX1 := HY; clear HY)); (try (have HY := Lib.hid (And.intro (HX2.out.1.below hBB) HX2.out.2); clear HX2; have HX2 := HY; clear HY)); (try (have HY := Lib.hid (And.intro (HX3.out.1.below hBB) HX3.out.2); clear HX3; have HX3 := HY; clear HY)); have HS2 := Lib.hid (HS.out.down hBB); clear HS; have HS := HS2; clear HS2 hBB; (rw [hb]); clear hb; generalize wx.alloc (.cells (arrv 4 (q4 b0 (-b1) (-b2) (-b3))) 2) = wn at *
   refine hK.out _ _ ?_ (fun hHeld => ?_)
   ·exact CB.out _ HS.out.e2
   clear hK K
   (try simp only [Act.put, nA, nB, nC])
   exact SH12.out _ _ _ _ HS HX0 HX2 HX3
  ·refine if_pos_of (by rfl) (wp_bsl4q (.tmp 37) (.tmp 39) (.tmp 41) (.tmp 44) rfl rfl rfl rfl rfl ?_); obtain ⟨x1, hb⟩ : ∃ x, wx.heap.size = x := ⟨_, rfl⟩; have HX1 := Lib.hid (rm_sl HS.out (q4 b1 b0 b3 (-b2)) x1 hb); have hBB := (Below.refl wx.heap.size wx).alloc (Nat.le_refl _) (.cells (arrv 4 (q4 b1 b0 b3 (-b2))) 2); (try (have HY := Lib.hid (And.intro (HX0.out.1.below hBB) HX0.out.2); clear HX0; have HX0 := HY; clear HY)); (try (have HY := Lib.hid (And.intro (HX2.out.1.below hBB) HX2.out.2); clear HX2; have HX2 := HY; clear HY)); (try (have HY := Lib.hid (And.intro (HX3.out.1.below hBB) HX3.out.2); clear HX3; have HX3 := HY; clear HY)); have HS2 := Lib.hid (HS.out.down hBB); clear HS; have HS := HS2; clear HS2 hBB; (rw [hb]); clear hb; generalize wx.alloc (.cells (arrv 4 (q4 b1 b0 b3 (-b2))) 2) = wn at *
   refine hK.out _ _ ?_ (fun hHeld => ?_)
   ·exact CB.out _ HS.out.e2
   clear hK K
   (try simp only [Act.put, nA, nB, nC])
   exact SH13.out _ _ _ _ HS HX1 HX2 HX3
 case sp7 =>
  intro wx x0 x1 HS HX1
  refine wpAnyM_threeS 31 45 60 rfl rfl rfl (by kernel_rfl) (fun K hK => ?_) (fun K hK => ?_) (fun K hK => ?_)
  ·go_simp
   (refine (DC1.out _ x1 HS.out.cell HS.out.free HS.out.e1 HX1.out.1).mono ?_); rintro e wn ⟨rfl, hu⟩; clear HX1; (try (have HY := Lib.hid (And.intro (HX0.out.1.upd hu HX0.out.2) HX0.out.2); clear HX0; have HX0 := HY; clear HY)); (try (have HY := Lib.hid (And.intro (HX2.out.1.upd hu HX2.out.2) HX2.out.2); clear HX2; have HX2 := HY; clear HY)); (try (have HY := Lib.hid (And.intro (HX3.out.1.upd hu HX3.out.2) HX3.out.2); clear HX3; have HX3 := HY; clear HY)); have HS2 := Lib.hid (HS.out.upd' hu); clear HS hu; have HS := HS2; clear HS2
   (try dsimp only)
   (try simp only [Act.put, nA, nB, nC])
   refine hK.out _ _ ?_ (fun hHeld => ?_)
   ·exact CB.out _ HS.out.e2
   clear hK K
   (try simp only [Act.put, nA, nB, nC])
   clear hHeld
   revert HS
   revert x1
   revert x0
   revert wn
   intro wx x0 x1 HS
   refine wpAnyM_twoS 45 60 rfl rfl (by kernel_rfl) (fun K hK => ?_) (fun K hK => ?_)
   ·refine if_pos_of (by rfl) (wp_bsl4q (.tmp 52) (.tmp 55) (.tmp 57) (.tmp 59) rfl rfl rfl rfl rfl ?_); obtain ⟨x2, hb⟩ : ∃ x, wx.heap.size = x := ⟨_, rfl⟩; have HX2 := Lib.hid (rm_sl HS.out (q4 b2 (-b3) b0 b1) x2 hb); have hBB := (Below.refl wx.heap.size wx).alloc (Nat.le_refl _) (.cells (arrv 4 (q4 b2 (-b3) b0 b1)) 2); (try (have HY := Lib.hid (And.intro (HX0.out.1.below hBB) HX0.out.2); clear HX0; have HX0 := HY; clear HY)); (try (have HY := Lib.hid (And.intro (HX1.out.1.below hBB) HX1.out.2); clear HX1; have HX1 := HY; clear HY)); (try (have HY := Lib.hid (And.intro (HX3.out.1.below hBB) HX3.out.2); clear HX3; have HX3 := HY; clear HY)); have HS2 := Lib.hid (HS.out.down hBB); clear HS; have HS := HS2; clear HS2 hBB; (rw [hb]); clear hb; generalize wx.alloc (.cells (arrv 4 (q4 b2 (-b3) b0 b1)) 2) = wn at *
    refine hK.out _ _ ?_ (fun hHeld => ?_)
    ·exact CB.out _ HS.out.e2
    clear hK K
    (try simp only [Act.put, nA, nB, nC])
    clear hHeld
    revert HX2
    revert HS
    revert x2
    revert x1
    revert x0
    revert wn
    exact SH18.out
   ·refine if_pos_of (by rfl) (wp_bsl4q (.tmp 67) (.tmp 69) (.tmp 72) (.tmp 74) rfl rfl rfl rfl rfl ?_); obtain ⟨x3, hb⟩ : ∃ x, wx.heap.size = x := ⟨_, rfl⟩; have HX3 := Lib.hid (rm_sl HS.out (q4 b3 b2 (-b1) b0) x3 hb); have hBB := (Below.refl wx.heap.size wx).alloc (Nat.le_refl _) (.cells (arrv 4 (q4 b3 b2 (-b1) b0)) 2); (try (have HY := Lib.hid (And.intro (HX0.out.1.below hBB) HX0.out.2); clear HX0; have HX0 := HY; clear HY)); (try (have HY := Lib.hid (And.intro (HX1.out.1.below hBB) HX1.out.2); clear HX1; have HX1 := HY; clear HY)); (try (have HY := Lib.hid (And.intro (HX2.out.1.below hBB) HX2.out.2); clear HX2; have HX2 := HY; clear HY)); have HS2 := Lib.hid (HS.out.down hBB); clear HS; have HS := HS2; clear HS2 hBB; (rw [hb]); clear hb; generalize wx.alloc (.cells (arrv 4 (q4 b3 b2 (-b1) b0)) 2) = wn at *
    refine hK.out _ _ ?_ (fun hHeld => ?_)
    ·exact CB.out _ HS.out.e2
    clear hK K
    (try simp only [Act.put, nA, nB, nC])
    clear hHeld
    revert HX3
    revert HS
    revert x3
    revert x1
    revert x0
    revert wn
    exact SH19.out
  ·refine if_pos_of (by rfl) (wp_bsl4q (.tmp 52) (.tmp 55) (.tmp 57) (.tmp 59) rfl rfl rfl rfl rfl ?_); obtain ⟨x2, hb⟩ : ∃ x, wx.heap.size = x := ⟨_, rfl⟩; have HX2 := Lib.hid (rm_sl HS.out (q4 b2 (-b3) b0 b1) x2 hb); have hBB := (Below.refl wx.heap.size wx).alloc (Nat.le_refl _) (.cells (arrv 4 (q4 b2 (-b3) b0 b1)) 2); (try (have HY := Lib.hid (And.intro (HX0.out.1.below hBB) HX0.out.2); clear HX0; have HX0 := HY; clear HY)); (try (have HY := Lib.hid (And.intro (HX1.out.1.below hBB) HX1.out.2); clear HX1; have HX1 := HY; clear HY)); (try (have HY := Lib.hid (And.intro (HX3.out.1.below hBB) HX3.out.2); clear HX3; have HX3 := HY; clear HY)); have HS2 := Lib.hid (HS.out.down hBB); clear HS; have HS := HS2; clear HS2 hBB; (rw [hb]); clear hb; generalize wx.alloc (.cells (arrv 4 (q4 b2 (-b3) b0 b1)) 2) = wn at *
   refine hK.out _ _ ?_ (fun hHeld => ?_)
   ·exact CB.out _ HS.out.e2
   clear hK K
   (try simp only [Act.put, nA, nB, nC])
   clear hHeld
   revert HX2
   revert HX1
   revert HS
   revert x2
   revert x1
   revert x0
   revert wn
   exact SH14.out
  ·refine if_pos_of (by rfl) (wp_bsl4q (.tmp 67) (.tmp 69) (.tmp 72) (.tmp 74) rfl rfl rfl rfl rfl ?_); obtain ⟨x3, hb⟩ : ∃ x, wx.heap.size = x := ⟨_, rfl⟩; have HX3 := Lib.hid (rm_sl HS.out (q4 b3 b2 (-b1) b0) x3 hb); have hBB := (Below.refl wx.heap.size wx).alloc (Nat.le_refl _) (.cells (arrv 4 (q4 b3 b2 (-b1) b0)) 2); (try (have HY := Lib.hid (And.intro (HX0.out.1.below hBB) HX0.out.2); clear HX0; have HX0 := HY; clear HY)); (try (have HY := Lib.hid (And.intro (HX1.out.1.below hBB) HX1.out.2); clear HX1; have HX1 := HY; clear HY)); (try (have HY := Lib.hid (And.intro (HX2.out.1.below hBB) HX2.out.2); clear HX2; have HX2 := HY; clear HY)); have HS2 := Lib.hid (HS.out.down hBB); clear HS; have HS := HS2; clear HS2 hBB; (rw [hb]); clear hb; generalize wx.alloc (.cells (arrv 4 (q4 b3 b2 (-b1) b0)) 2) = wn at *
   refine hK.out _ _ ?_ (fun hHeld => ?_)
   ·exact CB.out _ HS.out.e2
   clear hK K
   (try simp only [Act.put, nA, nB, nC])
   clear hHeld
   revert HX3
   revert HX1
   revert HS
   revert x3
   revert x1
   revert x0
   revert wn
   exact SH15.out
 case sp8 =>
  intro wx x0 x2 HS HX2
  refine wpAnyM_twoS 30 60 rfl rfl (by kernel_rfl) (fun K hK => ?_) (fun K hK => ?_)
  ·refine if_pos_of (by rfl) (wp_bsl4q (.tmp 37) (.tmp 39) (.tmp 41) (.tmp 44) rfl rfl rfl rfl rfl ?_); obtain ⟨x1, hb⟩ : ∃ x, wx.heap.size = x := ⟨_, rfl⟩; have HX1 := Lib.hid (rm_sl HS.out (q4 b1 b0 b3 (-b2)) x1 hb); have hBB := (Below.refl wx.heap.size wx).alloc (Nat.le_refl _) (.cells (arrv 4 (q4 b1 b0 b3 (-b2))) 2); (try (have HY := Lib.hid (And.intro (HX0.out.1.below hBB) HX0.out.2); clear HX0; have HX0 := HY; clear HY)); (try (have HY := Lib.hid (And.intro (HX2.out.1.below hBB) HX2.out.2); clear HX2; have HX2 := HY; clear HY)); (try (have HY := Lib.hid (And.intro (HX3.out.1.below hBB) HX3.out.2); clear HX3; have HX3 := HY; clear HY)); have HS2 := Lib.hid (HS.out.down hBB); clear HS; have HS := HS2; clear HS2 hBB; (rw [hb]); clear hb; generalize wx.alloc (.cells (arrv 4 (q4 b1 b0 b3 (-b2))) 2) = wn at *
   refine hK.out _ _ ?_ (fun hHeld => ?_)
   ·exact CB.out _ HS.out.e2
   clear hK K
   (try simp only [Act.put, nA, nB, nC])
   exact SH14.out _ _ _ _ HS HX1 HX2
  ·refine if_pos_of (by rfl) (wp_bsl4q (.tmp 67) (.tmp 69) (.tmp 72) (.tmp 74) rfl rfl rfl rfl rfl ?_); obtain ⟨x3, hb⟩ : ∃ x, wx.heap.size = x := ⟨_, rfl⟩; have HX3 := Lib.hid (rm_sl HS.out (q4 b3 b2 (-b1) b0) x3 hb); have hBB := (Below.refl wx.heap.size wx).alloc (Nat.le_refl _) (.cells (arrv 4 (q4 b3 b2 (-b1) b0)) 2); (try (have HY := Lib.hid (And.intro (HX0.out.1.below hBB) HX0.out.2); clear HX0; have HX0 := HY; clear HY)); (try (have HY := Lib.hid (And.intro (HX1.out.1.below hBB) HX1.out.2); clear HX1; have HX1 := HY; clear HY)); (try (have HY := Lib.hid (And.intro (HX2.out.1.below hBB) HX2.out.2); clear HX2; have HX2 := HY; clear HY)); have HS2 := Lib.hid (HS.out.down hBB); clear HS; have HS := HS2; clear HS2 hBB; (rw [hb]); clear hb; generalize wx.alloc (.cells (arrv 4 (q4 b3 b2 (-b1) b0)) 2) = wn at *
   refine hK.out _ _ ?_ (fun hHeld => ?_)
   ·exact CB.out _ HS.out.e2
   clear hK K
   (try simp only [Act.put, nA, nB, nC])
   clear hHeld
   revert HX3
   revert HX2
   revert HS
   revert x3
   revert x2
   revert x0
   revert wn
   exact SH16.out
 case sp9 =>
  intro wx x0 x3 HS HX3
  refine wpAnyM_twoS 30 45 rfl rfl (by kernel_rfl) (fun K hK => ?_) (fun K hK => ?_)
  ·refine if_pos_of (by rfl) (wp_bsl4q (.tmp 37) (.tmp 39) (.tmp 41) (.tmp 44) rfl rfl rfl rfl rfl ?_); obtain ⟨x1, hb⟩ : ∃ x, wx.heap.size = x := ⟨_, rfl⟩; have HX1 := Lib.hid (rm_sl HS.out (q4 b1 b0 b3 (-b2)) x1 hb); have hBB := (Below.refl wx.heap.size wx).alloc (Nat.le_refl _) (.cells (arrv 4 (q4 b1 b0 b3 (-b2))) 2); (try (have HY := Lib.hid (And.intro (HX0.out.1.below hBB) HX0.out.2); clear HX0; have HX0 := HY; clear HY)); (try (have HY := Lib.hid (And.intro (HX2.out.1.below hBB) HX2.out.2); clear HX2; have HX2 := HY; clear HY)); (try (have HY := Lib.hid (And.intro (HX3.out.1.below hBB) HX3.out.2); clear HX3; have HX3 := HY; clear HY)); have HS2 := Lib.hid (HS.out.down hBB); clear HS; have HS := HS2; clear HS2 hBB; (rw [hb]); clear hb; generalize wx.alloc (.cells (arrv 4 (q4 b1 b0 b3 (-b2))) 2) = wn at *
   refine hK.out _ _ ?_ (fun hHeld => ?_)
   ·exact CB.out _ HS.out.e2
   clear hK K
   (try simp only [Act.put, nA, nB, nC])
   exact SH15.out _ _ _ _ HS HX1 HX3
  ·refine if_pos_of (by rfl) (wp_bsl4q (.tmp 52) (.tmp 55) (.tmp 57) (.tmp 59) rfl rfl rfl rfl rfl ?_); obtain ⟨x2, hb⟩ : ∃ x, wx.heap.size = x := ⟨_, rfl⟩; have HX2 := Lib.hid (rm_sl HS.out (q4 b2 (-b3) b0 b1) x2 hb); have hBB := (Below.refl wx.heap.size wx).alloc (Nat.le_refl _) (.cells (arrv 4 (q4 b2 (-b3) b0 b1)) 2); (try (have HY := Lib.hid (And.intro (HX0.out.1.below hBB) HX0.out.2); clear HX0; have HX0 := HY; clear HY)); (try (have HY := Lib.hid (And.intro (HX1.out.1.below hBB) HX1.out.2); clear HX1; have HX1 := HY; clear HY)); (try (have HY := Lib.hid (And.intro (HX3.out.1.below hBB) HX3.out.2); clear HX3; have HX3 := HY; clear HY)); have HS2 := Lib.hid (HS.out.down hBB); clear HS; have HS := HS2; clear HS2 hBB; (rw [hb]); clear hb; generalize wx.alloc (.cells (arrv 4 (q4 b2 (-b3) b0 b1)) 2) = wn at *
   refine hK.out _ _ ?_ (fun hHeld => ?_)
   ·exact CB.out _ HS.out.e2
   clear hK K
   (try simp only [Act.put, nA, nB, nC])
   exact SH16.out _ _ _ _ HS HX2 HX3
 case sp10 =>
  intro wx x0 x1 x2 HS HX0 HX1 HX2
  refine wpAnyM_twoS 16 60 rfl rfl (by kernel_rfl) (fun K hK => ?_) (fun K hK => ?_)
  ·go_simp
   (refine (DC0.out _ x0 HS.out.cell HS.out.free HS.out.e1 HX0.out.1).mono ?_); rintro e wn ⟨rfl, hu⟩; clear HX0; (try (have HY := Lib.hid (And.intro (HX1.out.1.upd hu HX1.out.2) HX1.out.2); clear HX1; have HX1 := HY; clear HY)); (try (have HY := Lib.hid (And.intro (HX2.out.1.upd hu HX2.out.2) HX2.out.2); clear HX2; have HX2 := HY; clear HY)); (try (have HY := Lib.hid (And.intro (HX3.out.1.upd hu HX3.out.2) HX3.out.2); clear HX3; have HX3 := HY; clear HY)); have HS2 := Lib.hid (HS.out.upd' hu); clear HS hu; have HS := HS2; clear HS2
   (try dsimp only)
   (try simp only [Act.put, nA, nB, nC])
   refine hK.out _ _ ?_ (fun hHeld => ?_)
   ·exact CB.out _ HS.out.e2
   clear hK K
   (try simp only [Act.put, nA, nB, nC])
   exact SH14.out _ _ _ _ HS HX1 HX2
  ·refine if_pos_of (by rfl) (wp_bsl4q (.tmp 67) (.tmp 69) (.tmp 72) (.tmp 74) rfl rfl rfl rfl rfl ?_); obtain ⟨x3, hb⟩ : ∃ x, wx.heap.size = x := ⟨_, rfl⟩; have HX3 := Lib.hid (rm_sl HS.out (q4 b3 b2 (-b1) b0) x3 hb); have hBB := (Below.refl wx.heap.size wx).alloc (Nat.le_refl _) (.cells (arrv 4 (q4 b3 b2 (-b1) b0)) 2); (try (have HY := Lib.hid (And.intro (HX0.out.1.below hBB) HX0.out.2); clear HX0; have HX0 := HY; clear HY)); (try (have HY := Lib.hid (And.intro (HX1.out.1.below hBB) HX1.out.2); clear HX1; have HX1 := HY; clear HY)); (try (have HY := Lib.hid (And.intro (HX2.out.1.below hBB) HX2.out.2); clear HX2; have HX2 := HY; clear HY)); have HS2 := Lib.hid (HS.out.down hBB); clear HS; have HS := HS2; clear HS2 hBB; (rw [hb]); clear hb; generalize wx.alloc (.cells (arrv 4 (q4 b3 b2 (-b1) b0)) 2) = wn at *
   refine hK.out _ _ ?_ (fun hHeld => ?_)
   ·exact CB.out _ HS.out.e2
   clear hK K
   (try simp only [Act.put, nA, nB, nC])
   clear hHeld
   revert HX3
   revert HX2
   revert HX1
   revert HX0
   revert HS
   revert x3
   revert x2
   revert x1
   revert x0
   revert wn
   exact SH17.out
 case sp11 =>
  intro wx x0 x1 x3 HS HX0 HX1 HX3
  refine wpAnyM_twoS 16 45 rfl rfl (by kernel_rfl) (fun K hK => ?_) (fun K hK => ?_)
  ·go_simp
   (refine (DC0.out _ x0 HS.out.cell HS.out.free HS.out.e1 HX0.out.1).mono ?_); rintro e wn ⟨rfl, hu⟩; clear HX0; (try (have HY := Lib.hid (And.intro (HX1.out.1.upd hu HX1.out.2) HX1.out.2); clear HX1; have HX1 := HY; clear HY)); (try (have HY := Lib.hid (And.intro (HX2.out.1.upd hu HX2.out.2) HX2.out.2); clear HX2; have HX2 := HY; clear HY)); (try (have HY := Lib.hid (And.intro (HX3.out.1.upd hu HX3.out.2) HX3.out.2); clear HX3; have HX3 := HY; clear HY)); have HS2 := Lib.hid (HS.out.upd' hu); clear HS hu; have HS := HS2; clear HS2
   (try dsimp only)
   (try simp only [Act.put, nA, nB, nC])
   refine hK.out _ _ ?_ (fun hHeld => ?_)
   ·exact CB.out _ HS.out.e2
   clear hK K
   (try simp only [Act.put, nA, nB, nC])
   exact SH15.out _ _ _ _ HS HX1 HX3
  ·refine if_pos_of (by rfl) (wp_bsl4q (.tmp 52) (.tmp 55) (.tmp 57) (.tmp 59) rfl rfl rfl rfl rfl ?_); obtain ⟨x2, hb⟩ : ∃ x, wx.heap.size = x := ⟨_, rfl⟩; have HX2 := Lib.hid (rm_sl HS.out (q4 b2 (-b3) b0 b1) x2 hb); have hBB := (Below.refl wx.heap.size wx).alloc (Nat.le_refl _) (.cells (arrv 4 (q4 b2 (-b3) b0 b1)) 2); (try (have HY := Lib.hid (And.intro (HX0.out.1.below hBB) HX0.out.2); clear HX0; have HX0 := HY; clear HY)); (try (have HY := Lib.hid (And.intro (HX1.out.1.below hBB) HX1.out.2); clear HX1; have HX1 := HY; clear HY)); (try (have HY := Lib.hid (And.intro (HX3.out.1.below hBB) HX3.out.2); clear HX3; have HX3 := HY; clear HY)); have HS2 := Lib.hid (HS.out.down hBB); clear HS; have HS := HS2; clear HS2 hBB; (rw [hb]); clear hb; generalize wx.alloc (.cells (arrv 4 (q4 b2 (-b3) b0 b1)) 2) = wn at *
   refine hK.out _ _ ?_ (fun hHeld => ?_)
   ·exact CB.out _ HS.out.e2
   clear hK K
   (try simp only [Act.put, nA, nB, nC])
   exact SH17.out _ _ _ _ _ HS HX0 HX1 HX2 HX3
 case sp12 =>
  intro wx x0 x2 x3 HS HX0 HX2 HX3
  refine wpAnyM_twoS 16 30 rfl rfl (by kernel_rfl) (fun K hK => ?_) (fun K hK => ?_)
  ·go_simp
   (refine (DC0.out _ x0 HS.out.cell HS.out.free HS.out.e1 HX0.out.1).mono ?_); rintro e wn ⟨rfl, hu⟩; clear HX0; (try (have HY := Lib.hid (And.intro (HX1.out.1.upd hu HX1.out.2) HX1.out.2); clear HX1; have HX1 := HY; clear HY)); (try (have HY := Lib.hid (And.intro (HX2.out.1.upd hu HX2.out.2) HX2.out.2); clear HX2; have HX2 := HY; clear HY)); (try (have HY := Lib.hid (And.intro (HX3.out.1.upd hu HX3.out.2) HX3.out.2); clear HX3; have HX3 := HY; clear HY)); have HS2 := Lib.hid (HS.out.upd' hu); clear HS hu; have HS := HS2; clear HS2
   (try dsimp only)
   (try simp only [Act.put, nA, nB, nC])
   refine hK.out _ _ ?_ (fun hHeld => ?_)
   ·exact CB.out _ HS.out.e2
   clear hK K
   (try simp only [Act.put, nA, nB, nC])
   exact SH16.out _ _ _ _ HS HX2 HX3
  ·refine if_pos_of (by rfl) (wp_bsl4q (.tmp 37) (.tmp 39) (.tmp 41) (.tmp 44) rfl rfl rfl rfl rfl ?_); obtain ⟨x1, hb⟩ : ∃ x, wx.heap.size = x := ⟨_, rfl⟩; have HX1 := Lib.hid (rm_sl HS.out (q4 b1 b0 b3 (-b2)) x1 hb); have hBB := (Below.refl wx.heap.size wx).alloc (Nat.le_refl _) (.cells (arrv 4 (q4 b1 b0 b3 (-b2))) 2); (try (have HY := Lib.hid (And.intro (HX0.out.1.below hBB) HX0.out.2); clear HX0; have HX0 := HY; clear HY)); (try (have HY := Lib.hid (And.intro (HX2.out.1.below hBB) HX2.out.2); clear HX2; have HX2 := HY; clear HY)); (try (have HY := Lib.hid (And.intro (HX3.out.1.below hBB) HX3.out.2); clear HX3; have HX3 := HY; clear HY)); have HS2 := Lib.hid (HS.out.down hBB); clear HS; have HS := HS2; clear HS2 hBB; (rw [hb]); clear hb; generalize wx.alloc (.cells (arrv 4 (q4 b1 b0 b3 (-b2))) 2) = wn at *
   refine hK.out _ _ ?_ (fun hHeld => ?_)
   ·exact CB.out _ HS.out.e2
   clear hK K
   (try simp only [Act.put, nA, nB, nC])
   exact SH17.out _ _ _ _ _ HS HX0 HX1 HX2 HX3
 case sp13 =>
  intro wx x1 x2 x3 HS HX1 HX2 HX3
  refine wpAnyM_oneS 15 rfl (by kernel_rfl) (fun K hK => ?_)
  refine if_pos_of (by rfl) (wp_bsl4q (.tmp 20) (.tmp 23) (.tmp 26) (.tmp 29) rfl rfl rfl rfl rfl ?_); obtain ⟨x0, hb⟩ : ∃ x, wx.heap.size = x := ⟨_, rfl⟩; have HX0 := Lib.hid (rm_sl HS.out (q4 b0 (-b1) (-b2) (-b3)) x0 hb); have hBB := (Below.refl wx.heap.size wx).alloc (Nat.le_refl _) (.cells (arrv 4 (q4 b0 (-b1) (-b2) (-b3))) 2); (try (have HY := Lib.hid (And.intro (HX1.out.1.below hBB) HX1.out.2); clear HX1; have HX1 := HY; clear HY)); (try (have HY := Lib.hid (And.intro (HX2.out.1.below hBB) HX2.out.2); clear HX2; have HX2 := HY; clear HY)); (try (have HY := Lib.hid (And.intro (HX3.out.1.below hBB) HX3.out.2); clear HX3; have HX3 := HY; clear HY)); have HS2 := Lib.hid (HS.out.down hBB); clear HS; have HS := HS2; clear HS2 hBB; (rw [hb]); clear hb; generalize wx.alloc (.cells (arrv 4 (q4 b0 (-b1) (-b2) (-b3))) 2) = wn at *
  refine hK.out _ _ ?_ (fun hHeld => ?_)
  ·exact CB.out _ HS.out.e2
  clear hK K
  (try simp only [Act.put, nA, nB, nC])
  exact SH17.out _ _ _ _ _ HS HX0 HX1 HX2 HX3
 case sp14 =>
  intro wx x0 x1 x2 HS HX1 HX2
  refine wpAnyM_twoS 31 60 rfl rfl (by kernel_rfl) (fun K hK => ?_) (fun K hK => ?_)
  ·go_simp
   (refine (DC1.out _ x1 HS.out.cell HS.out.free HS.out.e1 HX1.out.1).mono ?_); rintro e wn ⟨rfl, hu⟩; clear HX1; (try (have HY := Lib.hid (And.intro (HX0.out.1.upd hu HX0.out.2) HX0.out.2); clear HX0; have HX0 := HY; clear HY)); (try (have HY := Lib.hid (And.intro (HX2.out.1.upd hu HX2.out.2) HX2.out.2); clear HX2; have HX2 := HY; clear HY)); (try (have HY := Lib.hid (And.intro (HX3.out.1.upd hu HX3.out.2) HX3.out.2); clear HX3; have HX3 := HY; clear HY)); have HS2 := Lib.hid (HS.out.upd' hu); clear HS hu; have HS := HS2; clear HS2
   (try dsimp only)
   (try simp only [Act.put, nA, nB, nC])
   refine hK.out _ _ ?_ (fun hHeld => ?_)
   ·exact CB.out _ HS.out.e2
   clear hK K
   (try simp only [Act.put, nA, nB, nC])
   exact SH18.out _ _ _ _ HS HX2
  ·refine if_pos_of (by rfl) (wp_bsl4q (.tmp 67) (.tmp 69) (.tmp 72) (.tmp 74) rfl rfl rfl rfl rfl ?_); obtain ⟨x3, hb⟩ : ∃ x, wx.heap.size = x := ⟨_, rfl⟩; have HX3 := Lib.hid (rm_sl HS.out (q4 b3 b2 (-b1) b0) x3 hb); have hBB := (Below.refl wx.heap.size wx).alloc (Nat.le_refl _) (.cells (arrv 4 (q4 b3 b2 (-b1) b0)) 2); (try (have HY := Lib.hid (And.intro (HX0.out.1.below hBB) HX0.out.2); clear HX0; have HX0 := HY; clear HY)); (try (have HY := Lib.hid (And.intro (HX1.out.1.below hBB) HX1.out.2); clear HX1; have HX1 := HY; clear HY)); (try (have HY := Lib.hid (And.intro (HX2.out.1.below hBB) HX2.out.2); clear HX2; have HX2 := HY; clear HY)); have HS2 := Lib.hid (HS.out.down hBB); clear HS; have HS := HS2; clear HS2 hBB; (rw [hb]); clear hb; generalize wx.alloc (.cells (arrv 4 (q4 b3 b2 (-b1) b0)) 2) = wn at *
   refine hK.out _ _ ?_ (fun hHeld => ?_)
   ·exact CB.out _ HS.out.e2
   clear hK K
   (try simp only [Act.put, nA, nB, nC])
   clear hHeld
   revert HX3
   revert HX2
   revert HX1
   revert HS
   revert x3
   revert x2
   revert x1
   revert x0
   revert wn
   exact SH20.out
 case sp15 =>
  intro wx x0 x1 x3 HS HX1 HX3
  refine wpAnyM_twoS 31 45 rfl rfl (by kernel_rfl) (fun K hK => ?_) (fun K hK => ?_)
  ·go_simp
   (refine (DC1.out _ x1 HS.out.cell HS.out.free HS.out.e1 HX1.out.1).mono ?_); rintro e wn ⟨rfl, hu⟩; clear HX1; (try (have HY := Lib.hid (And.intro (HX0.out.1.upd hu HX0.out.2) HX0.out.2); clear HX0; have HX0 := HY; clear HY)); (try (have HY := Lib.hid (And.intro (HX2.out.1.upd hu HX2.out.2) HX2.out.2); clear HX2; have HX2 := HY; clear HY)); (try (have HY := Lib.hid (And.intro (HX3.out.1.upd hu HX3.out.2) HX3.out.2); clear HX3; have HX3 := HY; clear HY)); have HS2 := Lib.hid (HS.out.upd' hu); clear HS hu; have HS := HS2; clear HS2
   (try dsimp only)
   (try simp only [Act.put, nA, nB, nC])
   refine hK.out _ _ ?_ (fun hHeld => ?_)
   ·exact CB.out _ HS.out.e2
   clear hK K
   (try simp only [Act.put, nA, nB, nC])
   exact SH19.out _ _ _ _ HS HX3
  ·refine if_pos_of (by rfl) (wp_bsl4q (.tmp 52) (.tmp 55) (.tmp 57) (.tmp 59) rfl rfl rfl rfl rfl ?_); obtain ⟨x2, hb⟩ : ∃ x, wx.heap.size = x := ⟨_, rfl⟩; have HX2 := Lib.hid (rm_sl HS.out (q4 b2 (-b3) b0 b1) x2 hb); have hBB := (Below.refl wx.heap.size wx).alloc (Nat.le_refl _) (.cells (arrv 4 (q4 b2 (-b3) b0 b1)) 2); (try (have HY := Lib.hid (And.intro (HX0.out.1.below hBB) HX0.out.2); clear HX0; have HX0 := HY; clear HY)); (try (have HY := Lib.hid (And.intro (HX1.out.1.below hBB) HX1.out.2); clear HX1; have HX1 := HY; clear HY)); (try (have HY := Lib.hid (And.intro (HX3.out.1.below hBB) HX3.out.2); clear HX3; have HX3 := HY; clear HY)); have HS2 := Lib.hid (HS.out.down hBB); clear HS; have HS := HS2; clear HS2 hBB; (rw [hb]); clear hb; generalize wx.alloc (.cells (arrv 4 (q4 b2 (-b3) b0 b1)) 2) = wn at *
   refine hK.out _ _ ?_ (fun hHeld => ?_)
   ·exact CB.out _ HS.out.e2
   clear hK K
   (try simp only [Act.put, nA, nB, nC])
   exact SH20.out _ _ _ _ _ HS HX1 HX2 HX3
 case sp16 =>
  intro wx x0 x2 x3 HS HX2 HX3
  refine wpAnyM_oneS 30 rfl (by kernel_rfl) (fun K hK => ?_)
  refine if_pos_of (by rfl) (wp_bsl4q (.tmp 37) (.tmp 39) (.tmp 41) (.tmp 44) rfl rfl rfl rfl rfl ?_); obtain ⟨x1, hb⟩ : ∃ x, wx.heap.size = x := ⟨_, rfl⟩; have HX1 := Lib.hid (rm_sl HS.out (q4 b1 b0 b3 (-b2)) x1 hb); have hBB := (Below.refl wx.heap.size wx).alloc (Nat.le_refl _) (.cells (arrv 4 (q4 b1 b0 b3 (-b2))) 2); (try (have HY := Lib.hid (And.intro (HX0.out.1.below hBB) HX0.out.2); clear HX0; have HX0 := HY; clear HY)); (try (have HY := Lib.hid (And.intro (HX2.out.1.below hBB) HX2.out.2); clear HX2; have HX2 := HY; clear HY)); (try (have HY := Lib.hid (And.intro (HX3.out.1.below hBB) HX3.out.2); clear HX3; have HX3 := HY; clear HY)); have HS2 := Lib.hid (HS.out.down hBB); clear HS; have HS := HS2; clear HS2 hBB; (rw [hb]); clear hb; generalize wx.alloc (.cells (arrv 4 (q4 b1 b0 b3 (-b2))) 2) = wn at *
  refine hK.out _ _ ?_ (fun hHeld => ?_)
  ·exact CB.out _ HS.out.e2
  clear hK K
  (try simp only [Act.put, nA, nB, nC])
  exact SH20.out _ _ _ _ _ HS HX1 HX2 HX3
 case sp17 =>
  intro wx x0 x1 x2 x3 HS HX0 HX1 HX2 HX3
  refine wpAnyM_oneS 16 rfl (by kernel_rfl) (fun K hK => ?_)
  go_simp
  (refine (DC0.out _ x0 HS.out.cell HS.out.free HS.out.e1 HX0.out.1).mono ?_); rintro e wn ⟨rfl, hu⟩; clear HX0; (try (have HY := Lib.hid (And.intro (HX1.out.1.upd hu HX1.out.2) HX1.out.2); clear HX1; have HX1 := HY; clear HY)); (try (have HY := Lib.hid (And.intro (HX2.out.1.upd hu HX2.out.2) HX2.out.2); clear HX2; have HX2 := HY; clear HY)); (try (have HY := Lib.hid (And.intro (HX3.out.1.upd hu HX3.out.2) HX3.out.2); clear HX3; have HX3 := HY; clear HY)); have HS2 := Lib.hid (HS.out.upd' hu); clear HS hu; have HS := HS2; clear HS2
  (try dsimp only)
  (try simp only [Act.put, nA, nB, nC])
  refine hK.out _ _ ?_ (fun hHeld => ?_)
  ·exact CB.out _ HS.out.e2
  clear hK K
  (try simp only [Act.put, nA, nB, nC])
  exact SH20.out _ _ _ _ _ HS HX1 HX2 HX3
 case sp18 =>
  intro wx x0 x1 x2 HS HX2
  refine wpAnyM_twoS 46 60 rfl rfl (by kernel_rfl) (fun K hK => ?_) (fun K hK => ?_)
  ·go_simp
   (refine (DC2.out _ x2 HS.out.cell HS.out.free HS.out.e1 HX2.out.1).mono ?_); rintro e wn ⟨rfl, hu⟩; clear HX2; (try (have HY := Lib.hid (And.intro (HX0.out.1.upd hu HX0.out.2) HX0.out.2); clear HX0; have HX0 := HY; clear HY)); (try (have HY := Lib.hid (And.intro (HX1.out.1.upd hu HX1.out.2) HX1.out.2); clear HX1; have HX1 := HY; clear HY)); (try (have HY := Lib.hid (And.intro (HX3.out.1.upd hu HX3.out.2) HX3.out.2); clear HX3; have HX3 := HY; clear HY)); have HS2 := Lib.hid (HS.out.upd' hu); clear HS hu; have HS := HS2; clear HS2
   (try dsimp only)
   (try simp only [Act.put, nA, nB, nC])
   refine hK.out _ _ ?_ (fun hHeld => ?_)
   ·exact CB.out _ HS.out.e2
   clear hK K
   (try simp only [Act.put, nA, nB, nC])
   clear hHeld
   revert HS
   revert x2
   revert x1
   revert x0
   revert wn
   intro wx x0 x1 x2 HS
   refine wpAnyM_oneS 60 rfl (by kernel_rfl) (fun K hK => ?_)
   refine if_pos_of (by rfl) (wp_bsl4q (.tmp 67) (.tmp 69) (.tmp 72) (.tmp 74) rfl rfl rfl rfl rfl ?_); obtain ⟨x3, hb⟩ : ∃ x, wx.heap.size = x := ⟨_, rfl⟩; have HX3 := Lib.hid (rm_sl HS.out (q4 b3 b2 (-b1) b0) x3 hb); have hBB := (Below.refl wx.heap.size wx).alloc (Nat.le_refl _) (.cells (arrv 4 (q4 b3 b2 (-b1) b0)) 2); (try (have HY := Lib.hid (And.intro (HX0.out.1.below hBB) HX0.out.2); clear HX0; have HX0 := HY; clear HY)); (try (have HY := Lib.hid (And.intro (HX1.out.1.below hBB) HX1.out.2); clear HX1; have HX1 := HY; clear HY)); (try (have HY := Lib.hid (And.intro (HX2.out.1.below hBB) HX2.out.2); clear HX2; have HX2 := HY; clear HY)); have HS2 := Lib.hid (HS.out.down hBB); clear HS; have HS := HS2; clear HS2 hBB; (rw [hb]); clear hb; generalize wx.alloc (.cells (arrv 4 (q4 b3 b2 (-b1) b0)) 2) = wn at *
   refine hK.out _ _ ?_ (fun hHeld => ?_)
   ·exact CB.out _ HS.out.e2
   clear hK K
   (try simp only [Act.put, nA, nB, nC])
   clear hHeld
   revert HX3
   revert HS
   revert x3
   revert x2
   revert x1
   revert x0
   revert wn
   exact SH22.out
  ·refine if_pos_of (by rfl) (wp_bsl4q (.tmp 67) (.tmp 69) (.tmp 72) (.tmp 74) rfl rfl rfl rfl rfl ?_); obtain ⟨x3, hb⟩ : ∃ x, wx.heap.size = x := ⟨_, rfl⟩; have HX3 := Lib.hid (rm_sl HS.out (q4 b3 b2 (-b1) b0) x3 hb); have hBB := (Below.refl wx.heap.size wx).alloc (Nat.le_refl _) (.cells (arrv 4 (q4 b3 b2 (-b1) b0)) 2); (try (have HY := Lib.hid (And.intro (HX0.out.1.below hBB) HX0.out.2); clear HX0; have HX0 := HY; clear HY)); (try (have HY := Lib.hid (And.intro (HX1.out.1.below hBB) HX1.out.2); clear HX1; have HX1 := HY; clear HY)); (try (have HY := Lib.hid (And.intro (HX2.out.1.below hBB) HX2.out.2); clear HX2; have HX2 := HY; clear HY)); have HS2 := Lib.hid (HS.out.down hBB); clear HS; have HS := HS2; clear HS2 hBB; (rw [hb]); clear hb; generalize wx.alloc (.cells (arrv 4 (q4 b3 b2 (-b1) b0)) 2) = wn at *
   refine hK.out _ _ ?_ (fun hHeld => ?_)
   ·exact CB.out _ HS.out.e2
   clear hK K
   (try simp only [Act.put, nA, nB, nC])
   clear hHeld
   revert HX3
   revert HX2
   revert HS
   revert x3
   revert x2
   revert x1
   revert x0
   revert wn
   exact SH21.out
 case sp19 =>
  intro wx x0 x1 x3 HS HX3
  refine wpAnyM_oneS 45 rfl (by kernel_rfl) (fun K hK => ?_)
  refine if_pos_of (by rfl) (wp_bsl4q (.tmp 52) (.tmp 55) (.tmp 57) (.tmp 59) rfl rfl rfl rfl rfl ?_); obtain ⟨x2, hb⟩ : ∃ x, wx.heap.size = x := ⟨_, rfl⟩; have HX2 := Lib.hid (rm_sl HS.out (q4 b2 (-b3) b0 b1) x2 hb); have hBB := (Below.refl wx.heap.size wx).alloc (Nat.le_refl _) (.cells (arrv 4 (q4 b2 (-b3) b0 b1)) 2); (try (have HY := Lib.hid (And.intro (HX0.out.1.below hBB) HX0.out.2); clear HX0; have HX0 := HY; clear HY)); (try (have HY := Lib.hid (And.intro (HX1.out.1.below hBB) HX1.out.2); clear HX1; have HX1 := HY; clear HY)); (try (have HY := Lib.hid (And.intro (HX3.out.1.below hBB) HX3.out.2); clear HX3; have HX3 := HY; clear HY)); have HS2 := Lib.hid (HS.out.down hBB); clear HS; have HS := HS2; clear HS2 hBB; (rw [hb]); clear hb; generalize wx.alloc (.cells (arrv 4 (q4 b2 (-b3) b0 b1)) 2) = wn at *
  refine hK.out _ _ ?_ (fun hHeld => ?_)
  ·exact CB.out _ HS.out.e2
  clear hK K
  (try simp only [Act.put, nA, nB, nC])
  exact SH21.out _ _ _ _ _ HS HX2 HX3
 case sp20 =>
  intro wx x0 x1 x2 x3 HS HX1 HX2 HX3
  refine wpAnyM_oneS 31 rfl (by kernel_rfl) (fun K hK => ?_)
  go_simp
  (refine (DC1.out _ x1 HS.out.cell HS.out.free HS.out.e1 HX1.out.1).mono ?_); rintro e wn ⟨rfl, hu⟩; clear HX1; (try (have HY := Lib.hid (And.intro (HX0.out.1.upd hu HX0.out.2) HX0.out.2); clear HX0; have HX0 := HY; clear HY)); (try (have HY := Lib.hid (And.intro (HX2.out.1.upd hu HX2.out.2) HX2.out.2); clear HX2; have HX2 := HY; clear HY)); (try (have HY := Lib.hid (And.intro (HX3.out.1.upd hu HX3.out.2) HX3.out.2); clear HX3; have HX3 := HY; clear HY)); have HS2 := Lib.hid (HS.out.upd' hu); clear HS hu; have HS := HS2; clear HS2
  (try dsimp only)
  (try simp only [Act.put, nA, nB, nC])
  refine hK.out _ _ ?_ (fun hHeld => ?_)
  ·exact CB.out _ HS.out.e2
  clear hK K
  (try simp only [Act.put, nA, nB, nC])
  exact SH21.out _ _ _ _ _ HS HX2 HX3
 case sp21 =>
  intro wx x0 x1 x2 x3 HS HX2 HX3
  refine wpAnyM_oneS 46 rfl (by kernel_rfl) (fun K hK => ?_)
  go_simp
  (refine (DC2.out _ x2 HS.out.cell HS.out.free HS.out.e1 HX2.out.1).mono ?_); rintro e wn ⟨rfl, hu⟩; clear HX2; (try (have HY := Lib.hid (And.intro (HX0.out.1.upd hu HX0.out.2) HX0.out.2); clear HX0; have HX0 := HY; clear HY)); (try (have HY := Lib.hid (And.intro (HX1.out.1.upd hu HX1.out.2) HX1.out.2); clear HX1; have HX1 := HY; clear HY)); (try (have HY := Lib.hid (And.intro (HX3.out.1.upd hu HX3.out.2) HX3.out.2); clear HX3; have HX3 := HY; clear HY)); have HS2 := Lib.hid (HS.out.upd' hu); clear HS hu; have HS := HS2; clear HS2
  (try dsimp only)
  (try simp only [Act.put, nA, nB, nC])
  refine hK.out _ _ ?_ (fun hHeld => ?_)
  ·exact CB.out _ HS.out.e2
  clear hK K
  (try simp only [Act.put, nA, nB, nC])
  exact SH22.out _ _ _ _ _ HS HX3
 case sp22 =>
  intro wx x0 x1 x2 x3 HS HX3
  refine wpAnyM_oneS 61 rfl (by kernel_rfl) (fun K hK => ?_)
  go_simp
  (refine (DC3.out _ x3 HS.out.cell HS.out.free HS.out.e1 HX3.out.1).mono ?_); rintro e wn ⟨rfl, hu⟩; clear HX3; (try (have HY := Lib.hid (And.intro (HX0.out.1.upd hu HX0.out.2) HX0.out.2); clear HX0; have HX0 := HY; clear HY)); (try (have HY := Lib.hid (And.intro (HX1.out.1.upd hu HX1.out.2) HX1.out.2); clear HX1; have HX1 := HY; clear HY)); (try (have HY := Lib.hid (And.intro (HX2.out.1.upd hu HX2.out.2) HX2.out.2); clear HX2; have HX2 := HY; clear HY)); have HS2 := Lib.hid (HS.out.upd' hu); clear HS hu; have HS := HS2; clear HS2
  (try dsimp only)
  (try simp only [Act.put, nA, nB, nC])
  refine hK.out _ _ ?_ (fun hHeld => ?_)
  ·exact CB.out _ HS.out.e2
  clear hK K
  (try simp only [Act.put, nA, nB, nC])
  refine tl 62 (v := ?_) ?_ ?_
  rotate_left
  ·(intro wz hSw; refine Eq.trans (run_build_rqq (.tmp 31) (.tmp 46) (.tmp 61) (.tmp 76) (by rfl) (by rfl) (by rfl) (by rfl) (by rfl)) ?_; with_reducible rfl)
  (try simp only [Act.put, nA, nB, nC])
  clear hHeld
  revert HS
  revert x3
  revert x2
  revert x1
  revert x0
  revert wn
  intro wx x0 x1 x2 x3 HS
  have hHeld : (((fun w' => w'.cell? ⟨w.heap.size + 1, 0, none⟩ = some (.int .i64 b0) ∧ w'.cell? ⟨w.heap.size + 1, 1, none⟩ = some (.int .i64 b1) ∧ w'.cell? ⟨w.heap.size + 1, 2, none⟩ = some (.int .i64 b2) ∧ w'.cell? ⟨w.heap.size + 1, 3, none⟩ = some (.int .i64 b3))) wx) := by exact CB.out _ HS.out.e2
  refine wpAnyM_doneL 63 rfl (by kernel_rfl) (by rfl) (by kernel_rfl) (run_store_row 43 (.tmp 6) (.tmp 77) rfl _ rfl rfl HS.out.e0 (irq.trans rfl)) ?_
  (try simp only [Act.put, nA, nB, nC])
  refine wpAnyM_done (by kernel_rfl) ?_ _
  (have HF := Lib.hid (HS.out.row (ne2 (by omega) (by omega)) (q4 d0 d1 d2 d3)); go_wp2_with fail; refine bodyPost_ret (results_cell_row Tryz.results31 _ _ (w.heap.size + 1 + 1) 43 (arrv 4 _) (0, 0) _ rfl HF.out.e0 Tryz.underlying43 rfl (irq.trans (by rw [arrv_size]))) rfl ⟨by rw [HEE.out.1], by rw [← HEE.out.2]; exact HF.out.upd⟩)
end Go.Proofs.YtgfklheepkgedaaGreat
