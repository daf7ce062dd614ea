/- The walk of ResetJoins. -/
import Derived.Test.YtgfklheepkgedaaGreatQ23
import Derived.Test.YtgfklheepkgedaaGreatQ17
import Derived.Test.YtgfklheepkgedaaGreatQ07
namespace Go.Proofs.YtgfklheepkgedaaGreat
open Go.RowKit
open Go
set_option maxRecDepth 100000
theorem idl0 : (Tryz.prog.info? 40).map (·.size) = some 10 := by kernel_rfl
theorem run_build_rd3 {o : Oper} {ev : Operand → Value} {w : World} (x y z : Operand) (ho : o.op = .build 46 #[(0, x), (1, y), (2, z)]) {D : Nat → Int} (hx : ev x = .agg (arrv 4 (fun i => D (0 + i)))) (hy : ev y = .agg (arrv 3 (fun i => D (4 + i)))) (hz : ev z = .agg (arrv 3 (fun i => D (7 + i)))) :
    (execOp ev o).run Tryz.prog w = .ok (.value (.agg (arrv 10 D))) w := by
  unfold execOp
  simp only [ho, List.map_toArray, List.map_cons, List.map_nil, hx, hy, hz]
  kernel_rfl
set_option maxHeartbeats 4000000 in
theorem own26_any (D : Nat → Int) (w : World) : Calls Tryz.prog 14 #[.agg (arrv 10 D)] w fun e w' => e = .returned (.agg (arrv 10 D)) ∧ Below w.heap.size w w' := by
  have L0 := Lib.hid (show BsR [⟨w.heap.size + 1, 46, 10, fun _ => 0⟩, ⟨w.heap.size, 40, 10, D⟩] (w.heap.size + 1 + 1) w ((w.alloc (.cells (arrv 10 D) 40)).alloc (.cells #[.int .i64 0, .int .i64 0, .int .i64 0, .int .i64 0, .int .i64 0, .int .i64 0, .int .i64 0, .int .i64 0, .int .i64 0, .int .i64 0] 46)) by
    rw [zdr]
    have := ((bs_nil w).lay 40 10 D).lay 46 10 (fun _ => 0)
    simpa using this)
  go_enter Tryz.func14, Tryz.ntmps14
  go_upto_region 1 with fail
  generalize (w.alloc (.cells (arrv 10 D) 40)).alloc (.cells #[.int .i64 0, .int .i64 0, .int .i64 0, .int .i64 0, .int .i64 0, .int .i64 0, .int .i64 0, .int .i64 0, .int .i64 0, .int .i64 0] 46) = W0 at *
  have P0 := L0.out.e1
  refine wp_region_lit ?_
  refine wpList_val (v := ?_) rfl ?_ ?_
  rotate_left
  · (go_simp; (try (first | with_reducible rfl | (constructor <;> with_reducible rfl))))
  (try simp only [Act.put, nA, nB, nC])
  refine wpList_val (v := ?_) rfl ?_ ?_
  rotate_left
  · (refine Eq.trans (run_load_sub 38 (.tmp 3) (by rfl) w.heap.size 0 4 (by rfl) P0 (by decide) _ Tryz.underlying38 rfl iqt) ?_; with_reducible rfl)
  (try simp only [Act.put, nA, nB, nC])
  refine wpList_val (v := ?_) rfl ?_ ?_
  rotate_left
  · (go_simp; (try (first | with_reducible rfl | (constructor <;> with_reducible rfl))))
  (try simp only [Act.put, nA, nB, nC])
  refine wpList_val (v := ?_) rfl ?_ ?_
  rotate_left
  · (refine Eq.trans (run_load_sub 28 (.tmp 5) (by rfl) w.heap.size 4 3 (by rfl) P0 (by decide) _ Tryz.underlying28 rfl iv3) ?_; with_reducible rfl)
  (try simp only [Act.put, nA, nB, nC])
  refine wpList_val (v := ?_) rfl ?_ ?_
  rotate_left
  · (go_simp; (try (first | with_reducible rfl | (constructor <;> with_reducible rfl))))
  (try simp only [Act.put, nA, nB, nC])
  refine wpList_val (v := ?_) rfl ?_ ?_
  rotate_left
  · (refine Eq.trans (run_load_sub 28 (.tmp 7) (by rfl) w.heap.size 7 3 (by rfl) P0 (by decide) _ Tryz.underlying28 rfl iv3) ?_; with_reducible rfl)
  (try simp only [Act.put, nA, nB, nC])
  refine wpList_val (v := ?_) rfl ?_ ?_
  rotate_left
  · (refine Eq.trans (run_build_rd3 (D := D) (.tmp 4) (.tmp 6) (.tmp 8) (by rfl) (by rfl) (by rfl) (by rfl)) ?_; with_reducible rfl)
  (try simp only [Act.put, nA, nB, nC])
  refine wpList_done (w' := ?_) rfl ?_ ?_
  rotate_left
  · (refine Eq.trans (run_store_row 46 (.tmp 2) (.tmp 9) (by rfl) (w.heap.size + 1) (by rfl) (by rfl) L0.out.e0 (irdl.trans rfl)) ?_; with_reducible rfl)
  (try simp only [Act.put, nA, nB, nC])
  refine wpList_nil ?_
  have L1 := Lib.hid (L0.out.row (by simp) D)
  generalize W0.setRow (w.heap.size + 1) (arrv 10 D) = W1 at *
  go_wp2_with fail
  refine bodyPost_ret (results_cell_row Tryz.results14 _ _ (w.heap.size + 1) 46 (arrv 10 _) (0, 0) _ rfl L1.out.e0 Tryz.underlying46 rfl (irdl.trans (by rw [arrv_size]))) rfl ⟨rfl, L1.out.below⟩
theorem run_equalIn_rd (d : Nat) (w : World) (f : Nat → Int) : (Op.equalIn (d + 3) 46 (.agg (arrv 10 f)) (.agg (arrv 10 f))).run Tryz.prog w = .ok true w := by
  have hf := fieldsOf_of Tryz.underlying46
  rw [show d + 3 = (d + 2) + 1 from rfl, run_equalIn_struct w (d + 2) _ _ _ (by rw [hf]; exact Tryz.underlying46) (by kernel_rfl), hf]
  have hi22 : ∃ i, Tryz.prog.info? 43 = some i ∧ i.size = 4 := by
    have h : (Tryz.prog.info? 43).map (·.size) = some 4 := by kernel_rfl
    cases e : Tryz.prog.info? 43 with
    | none => rw [e] at h; cases h
    | some i => rw [e] at h; exact ⟨i, rfl, by simpa using h⟩
  have hi23 : ∃ i, Tryz.prog.info? 44 = some i ∧ i.size = 3 := by
    have h : (Tryz.prog.info? 44).map (·.size) = some 3 := by kernel_rfl
    cases e : Tryz.prog.info? 44 with
    | none => rw [e] at h; cases h
    | some i => rw [e] at h; exact ⟨i, rfl, by simpa using h⟩
  have hi2 : ∃ i, Tryz.prog.info? 2 = some i ∧ i.size = 1 := by
    have h : (Tryz.prog.info? 2).map (·.size) = some 1 := by kernel_rfl
    cases e : Tryz.prog.info? 2 with
    | none => rw [e] at h; cases h
    | some i => rw [e] at h; exact ⟨i, rfl, by simpa using h⟩
  obtain ⟨i22, h22, s22⟩ := hi22
  obtain ⟨i23, h23, s23⟩ := hi23
  obtain ⟨i2, h2, s2⟩ := hi2
  have hc : Tryz.prog.cellsOf 2 = 1 := by simp [Program.cellsOf, h2, s2]
  have p0 := run_part_vec (w := w) (m := 10) Tryz.underlying43 h22 s22 0 f (by omega)
  have p1 := run_part_vec (w := w) (m := 10) Tryz.underlying44 h23 s23 4 f (by omega)
  have p2 := run_part_vec (w := w) (m := 10) Tryz.underlying44 h23 s23 7 f (by omega)
  have q0 := fun g => (run_equalIn_vec (w := w) d Tryz.underlying43 Tryz.underlying2 hc h2 g g).trans (by rw [eqB_iff.2 fun _ _ => rfl])
  have q1 := fun g => (run_equalIn_vec (w := w) d Tryz.underlying44 Tryz.underlying2 hc h2 g g).trans (by rw [eqB_iff.2 fun _ _ => rfl])
  have z : (Op.eqFields (d + 2) (arrv 10 f) (arrv 10 f) []).run Tryz.prog w = .ok true w := by simp [Op.eqFields]
  have e2 := run_eqFields_cons (f := ⟨"Pos", 44, 7, false, "", "", 56⟩) (by decide) p2 p2 (q1 _) z
  have e1 := run_eqFields_cons (f := ⟨"Vel", 44, 4, false, "", "", 32⟩) (by decide) p1 p1 (q1 _) e2
  have e0 := run_eqFields_cons (f := ⟨"Turn", 43, 0, false, "", "", 0⟩) (by decide) p0 p0 (q0 _) e1
  exact e0
theorem run_op_eqlRd {o : Oper} {ev : Operand → Value} {w : World} (x y : Operand) (ho : o.op = .binOp .eql 46 x y 46) {f : Nat → Int} (hx : ev x = .agg (arrv 10 f)) (hy : ev y = .agg (arrv 10 f)) :
    (execOp ev o).run Tryz.prog w = .ok (.value (.bool true)) w := by
  have e : (Op.equal 46 (.agg (arrv 10 f)) (.agg (arrv 10 f))).run Tryz.prog w = .ok true w := run_equalIn_rd 9997 w f
  have hG : Tryz.prog.eqGuardType Tryz.prog.depth 46 = false := by kernel_rfl
  unfold execOp
  simp only [ho, hx, hy, eqGuard, binOp, Sem.run_bind, Sem.run_pure, Result.andThen_ok]
  simp [hG, e, go_sem]
theorem slc_rows {w : World} {q : Option Addr} {n : Nat} {I : Nat → Int} (h : Slc w q (10 * n) I) : ∃ pb po, (0 < n → q = some ⟨pb, po, none⟩) ∧ ∀ i, i < n → ∀ j, j < 10 → w.cell? ⟨pb, po + i * 10 + j, none⟩ = some (.int .i64 (I (i * 10 + j))) := by
  rcases Nat.eq_zero_or_pos n with h0 | h0
  · exact ⟨0, 0, fun h => by omega, fun i hi => by omega⟩
  · obtain ⟨b, o, e, _⟩ := h 0 (by omega)
    refine ⟨b, o, fun _ => e, fun i hi j hj => ?_⟩
    obtain ⟨b', o', e', hc⟩ := h (i * 10 + j) (by omega)
    rw [e] at e'
    injection e' with e'
    injection e' with e1 e2
    subst e1 e2
    rw [Nat.add_assoc]
    exact hc
/-- Two flags of the call's own, and a slice of jumps. -/
structure J26 (bc rc : Nat) (hb hr : Bool) (v : Value) (m : Nat) (L : Nat → Nat → Int) (w wr : World) : Prop where
  below : Below w.heap.size w wr
  c1 : wr.cell? ⟨bc, 0, none⟩ = some (.bool hb)
  f1 : wr.frozen? ⟨bc, 0, none⟩ = false
  c2 : wr.cell? ⟨rc, 0, none⟩ = some (.bool hr)
  f2 : wr.frozen? ⟨rc, 0, none⟩ = false
  ne : bc ≠ rc
  lb : w.heap.size ≤ bc
  lr : w.heap.size ≤ rc
  own : OwnO_B wr v m L
  lv : ∀ k, v.ownBlock = some k → w.heap.size ≤ k ∧ k ≠ bc ∧ k ≠ rc
section
variable {bc rc : Nat} {hb hr h' : Bool} {v v' : Value} {m m' : Nat} {L L' : Nat → Nat → Int} {w wr w' : World}
theorem J26.l1 (s : J26 bc rc hb hr v m L w wr) : bc < wr.heap.size := World.block_lt_of_cell? _ _ s.c1
theorem J26.l2 (s : J26 bc rc hb hr v m L w wr) : rc < wr.heap.size := World.block_lt_of_cell? _ _ s.c2
theorem J26.move (s : J26 bc rc hb hr v m L w wr) (b : Below w.heap.size w w') (e1 : w'.heap[bc]? = wr.heap[bc]?) (e2 : w'.heap[rc]? = wr.heap[rc]?) (o : OwnO_B w' v' m' L') (lv : ∀ k, v'.ownBlock = some k → w.heap.size ≤ k ∧ k ≠ bc ∧ k ≠ rc) : J26 bc rc hb hr v' m' L' w w' :=
  ⟨b, (World.cell?_of_block (a := ⟨bc, 0, none⟩) e1).trans s.c1, (World.frozen?_of_block (a := ⟨bc, 0, none⟩) e1).trans s.f1, (World.cell?_of_block (a := ⟨rc, 0, none⟩) e2).trans s.c2, (World.frozen?_of_block (a := ⟨rc, 0, none⟩) e2).trans s.f2, s.ne, s.lb, s.lr, o, lv⟩
theorem J26.down (s : J26 bc rc hb hr v m L w wr) (k : Below wr.heap.size wr w') : J26 bc rc hb hr v m L w w' :=
  s.move (s.below.trans (k.mono s.below.size)) (k.block _ s.l1) (k.block _ s.l2) (s.own.below k) s.lv
theorem J26.drew (s : J26 bc rc hb hr v m L w wr) : J26 bc rc hb hr v m L w wr.drew := s.down (Below.drew (Below.refl _ _))
theorem J26.grown (s : J26 bc rc hb hr v m L w wr) {r : Option Nat} (g : wr.grownBy w' r) (hr' : ∀ k, r = some k → w.heap.size ≤ k ∧ k ≠ bc ∧ k ≠ rc) (o : OwnO_B w' v' m' L') (lv : ∀ k, v'.ownBlock = some k → w.heap.size ≤ k ∧ k ≠ bc ∧ k ≠ rc) : J26 bc rc hb hr v' m' L' w w' :=
  s.move (below_grown s.below g (fun k hk => (hr' k hk).1) s.below.size) (g.block _ s.l1 fun e => (hr' _ e.symm).2.1 rfl) (g.block _ s.l2 fun e => (hr' _ e.symm).2.2 rfl) o lv
theorem J26.updB (s : J26 bc rc hb hr v m L w wr) (u : Upd ⟨bc, 0, none⟩ h' wr w') : J26 bc rc h' hr v m L w w' := by
  have e2 := u.block s.l2 (fun e => s.ne e.symm)
  refine ⟨own_upd s.below s.lb u, u.cellc s.c1, (u.frozen s.l1).trans s.f1, (World.cell?_of_block (a := ⟨rc, 0, none⟩) e2).trans s.c2, (World.frozen?_of_block (a := ⟨rc, 0, none⟩) e2).trans s.f2, s.ne, s.lb, s.lr, s.own.kept fun k hk e => u.block hk (fun h => (s.lv k e.symm).2.1 h), s.lv⟩
theorem J26.updR (s : J26 bc rc hb hr v m L w wr) (u : Upd ⟨rc, 0, none⟩ h' wr w') : J26 bc rc hb h' v m L w w' := by
  have e1 := u.block s.l1 (fun e => s.ne e)
  refine ⟨own_upd s.below s.lr u, (World.cell?_of_block (a := ⟨bc, 0, none⟩) e1).trans s.c1, (World.frozen?_of_block (a := ⟨bc, 0, none⟩) e1).trans s.f1, u.cellc s.c2, (u.frozen s.l2).trans s.f2, s.ne, s.lb, s.lr, s.own.kept fun k hk e => u.block hk (fun h => (s.lv k e.symm).2.2 h), s.lv⟩
theorem j26_app {g cap : Nat} (s : J26 bc rc hb hr v m L w wr) (h1 : OwnO_B w' (.slice (some ⟨g, 0, none⟩) (m + 1) cap) (m + 1) (fun i => if i < m then L i else L m)) (h2 : wr.grownBy w' v.ownBlock) (h3 : v.ownBlock = some g ∨ g = wr.heap.size) : J26 bc rc hb hr (.slice (some ⟨g, 0, none⟩) (m + 1) cap) (m + 1) L w w' := by
  refine s.grown h2 s.lv (h1.congr fun i hi j hj => ?_) fun k hk => ?_
  · by_cases h : i < m
    · simp only [if_pos h]
    · obtain rfl : i = m := by omega
      simp only [if_neg h]
  · simp [Value.ownBlock] at hk
    subst hk
    rcases h3 with h | h
    · exact s.lv _ h
    · have := s.l1; have := s.l2; have := s.below.size
      exact ⟨by omega, by omega, by omega⟩
/-- The slice itself. -/
theorem J26.form (s : J26 bc rc hb hr v m L w wr) : ∃ q g cp, v = .slice q m cp ∧ (0 < m → q = some ⟨g, 0, none⟩) ∧ ∀ x, OwnO_B x v m L → ∀ i, i < m → ∀ j, j < 10 → x.cell? ⟨g, 0 + i * 10 + j, none⟩ = some (.int .i64 (L i j)) := by
  rcases s.own.form with ⟨h0, rfl⟩ | ⟨g, cp, rfl, _, _, _⟩
  · subst h0
    exact ⟨none, 0, 0, rfl, fun h => by omega, fun x _ i hi => by omega⟩
  · refine ⟨_, g, cp, rfl, fun _ => rfl, fun x o i hi j hj => ?_⟩
    rcases o.form with ⟨h0, _⟩ | ⟨g', cp', e, _, _, hc⟩
    · omega
    · injection e with e1 e2 e3; injection e1 with e1; injection e1 with e1
      subst e1
      rw [Nat.zero_add]; exact hc i hi j hj
theorem j26_start (b : Below w.heap.size w wr) (L : Nat → Nat → Int) : J26 wr.heap.size (wr.heap.size + 1) false false (.slice none 0 0) 0 L w ((wr.alloc (.cells #[.bool false] 32)).alloc (.cells #[.bool false] 36)) :=
  ⟨(b.alloc b.size _).alloc (by simp; have := b.size; omega) _, by simp [go_sem], by simp [go_sem], by simp [go_sem], by simp [go_sem], by omega, b.size, by have := b.size; omega, OwnO_B.nil _ _, fun k hk => by simp [Value.ownBlock] at hk⟩
end
/-- An empty slice of the other kind, laid. -/
def J26A (bc rc b : Nat) (L : Nat → Nat → Int) (wr : World) : Prop := OwnO_A wr (.slice (some ⟨b, 0, none⟩) 0 0) 0 L ∧ b < wr.heap.size ∧ b ≠ bc ∧ b ≠ rc
theorem j26_nil {bc rc : Nat} {hb hr : Bool} {v : Value} {m : Nat} {L : Nat → Nat → Int} {w wr : World} (s : J26 bc rc hb hr v m L w wr) (LA : Nat → Nat → Int) (d : Nat) (e : wr.heap.size = d) : J26A bc rc d LA (wr.alloc (.cells #[] 40)) ∧ w.heap.size ≤ d ∧ ∀ k, v.ownBlock = some k → k ≠ d := by
  subst e
  have := s.l1; have := s.l2
  exact ⟨⟨own_empty_A wr LA, by simp, by omega, by omega⟩, s.below.size, fun k hk => by have := s.own.lt hk; omega⟩
/-- The jumps copied into it. -/
def J26L (bc rc g m : Nat) (L : Nat → Nat → Int) (wr : World) : Prop := g < wr.heap.size ∧ g ≠ bc ∧ g ≠ rc ∧ ∀ i, i < m → ∀ j, j < 10 → wr.cell? ⟨g, 0 + i * 10 + j, none⟩ = some (.int .i64 (L i j))
section
variable {bc rc b g cap n : Nat} {hb hr h' : Bool} {v : Value} {m : Nat} {L LA : Nat → Nat → Int} {w wr w' : World}
theorem j26_listA (s : J26 bc rc hb hr v m L w wr) (a : J26A bc rc b LA wr) (h1 : OwnO_A w' (.slice (some ⟨g, 0, none⟩) n cap) n LA) (h3 : g = b ∨ g = wr.heap.size) : J26L bc rc g n LA w' := by
  have l1 := s.l1
  have l2 := s.l2
  obtain ⟨_, a2, a3, a4⟩ := a
  refine ⟨h1.lt rfl, by rcases h3 with rfl | rfl <;> omega, by rcases h3 with rfl | rfl <;> omega, fun i hi j hj => ?_⟩
  rcases h1.form with ⟨h0, _⟩ | ⟨g', cp', e, _, _, hc⟩
  · omega
  · injection e with e1 e2 e3; injection e1 with e1; injection e1 with e1
    subst e1
    rw [Nat.zero_add]; exact hc i hi j hj
theorem j26_otherA (s : J26 bc rc hb hr v m L w wr) (hv : ∀ k, v.ownBlock = some k → k ≠ b) (a : J26A bc rc b LA wr) (hwb : w.heap.size ≤ b) (h2 : wr.grownBy w' (some b)) : J26 bc rc hb hr v m L w w' := by
  obtain ⟨_, a2, a3, a4⟩ := a
  exact s.grown h2 (fun k hk => by injection hk with hk; subst hk; exact ⟨hwb, a3, a4⟩) (s.own.kept fun k hk e => h2.block k hk (fun e2 => by injection e2 with e2; subst e2; exact hv _ e.symm rfl)) s.lv
theorem j26_keepA (a : J26A bc rc b LA wr) (u : Upd ⟨rc, 0, none⟩ h' wr w') : J26A bc rc b LA w' := by
  obtain ⟨a1, a2, a3, a4⟩ := a
  refine ⟨a1.kept fun k hk e => u.block hk (fun h => ?_), Nat.lt_of_lt_of_le a2 u.size, a3, a4⟩
  simp [Value.ownBlock] at e
  subst e
  exact a4 h
theorem j26_keepL (a : J26L bc rc g n LA wr) (u : Upd ⟨rc, 0, none⟩ h' wr w') : J26L bc rc g n LA w' := by
  obtain ⟨a1, a2, a3, a4⟩ := a
  exact ⟨Nat.lt_of_lt_of_le a1 u.size, a2, a3, fun i hi j hj => (World.cell?_of_block (a := ⟨g, 0 + i * 10 + j, none⟩) (u.block a1 a3)).trans (a4 i hi j hj)⟩
end
set_option maxHeartbeats 16000000 in
theorem joins26_walk (q : Option Addr) (n cp : Nat) (I : Nat → Int) (w : World) (hI : Slc w q (10 * n) I) :
    Calls Tryz.prog 4 #[.slice q n cp] w fun e w' => e = .returned (.bool true) ∧ Below w.heap.size w w' := by
  obtain ⟨pb, po, hq, hL⟩ := slc_rows hI
  have HQ := Lib.hid hq
  obtain ⟨LI, hLI⟩ : ∃ L : Nat → Nat → Int, (fun i j => I (i * 10 + j)) = L := ⟨_, rfl⟩
  have CL := Lib.hid (fun (i : Nat) (hi : i < n) (j : Nat) (hj : j < 10) (x : World) (b : Below w.heap.size w x) => show x.cell? ⟨pb, po + i * 10 + j, none⟩ = some (.int .i64 (LI i j)) from by
    have hc := hL i hi j hj
    rw [← hLI]
    exact (b.cell (World.block_lt_of_cell? _ _ hc)).trans hc)
  clear hI hq hL hLI
  go_enter Tryz.func4, Tryz.ntmps4
  go_upto_region 3 with (go_at_call 5; (refine (awake26_any _).mono ?_); rintro e w1 ⟨rfl, hb1⟩; have S1 := Lib.hid hb1; clear hb1)
  by_cases hn : 20 < n
  · have d1 : decide (20 < n) = true := by simpa using hn
    have d2 : decide (20 < (n : Int)) = true := by simp; omega
    clear hn
    go_wp2_with fail
    go_ret
    exact ⟨rfl, S1.out⟩
  have d1 : decide (20 < n) = false := by simpa using hn
  have d2 : decide (20 < (n : Int)) = false := by simp; omega
  have HN := Lib.hid (show n ≤ 20 by omega)
  clear hn
  go_upto_region 9 with fail
  clear d1 d2
  have J0 := Lib.hid (j26_start S1.out LI)
  generalize (w1.alloc (.cells #[.bool false] 32)).alloc (.cells #[.bool false] 36) = W1 at *
  obtain ⟨rc, hrc⟩ : ∃ x, w1.heap.size + 1 = x := ⟨_, rfl⟩
  rw [hrc] at J0 ⊢
  clear hrc
  obtain ⟨bc, hbc⟩ : ∃ x, w1.heap.size = x := ⟨_, rfl⟩
  rw [hbc] at J0 ⊢
  clear hbc S1
  go_loopw [5, 6] (fun v5 i wr => ∃ (m : Nat) (v : Value), m ≤ n ∧ v = v5 ∧ i = .int .i64 m ∧ Hid (J26 bc rc false false v m LI w wr)) (fun _ i _ => n - (intOf i).toNat)
  case atStart => exact ⟨0, _, Nat.zero_le _, rfl, by go_num, J0⟩
  case round =>
    obtain ⟨m, v, hm, rfl, rfl, R⟩ := hrel
    clear J0
    have m0 : (0 : Int) ≤ (m : Int) := Int.natCast_nonneg _
    have n20 : (n : Int) ≤ 20 := by have := HN.out; omega
    by_cases hlt : m < n
    · have d1 : decide (m < n) = true := by simpa using hlt
      have d2 : decide ((m : Int) < (n : Int)) = true := by simpa using hlt
      have k1 : (m : Int) < (n : Int) := by omega
      obtain rfl := HQ.out (by omega)
      have C0 := Lib.hid (fun j hj => CL.out m hlt j hj _ R.out.below)
      go_upto_region 11 with fail
      refine wp_region_lit ?_
      refine wpList_val (v := ?_) rfl ?_ ?_
      rotate_left
      · (go_simp; (try (first | with_reducible rfl | (constructor <;> with_reducible rfl))))
      (try simp only [Act.put, nA, nB, nC])
      refine wpList_val (v := ?_) rfl ?_ ?_
      rotate_left
      · (go_simp; (try (first | with_reducible rfl | (constructor <;> with_reducible rfl))))
      (try simp only [Act.put, nA, nB, nC])
      refine wpList_val (v := ?_) rfl ?_ ?_
      rotate_left
      · (go_simp; (try (first | with_reducible rfl | (constructor <;> with_reducible rfl))))
      (try simp only [Act.put, nA, nB, nC])
      refine wpList_val (v := ?_) rfl ?_ ?_
      rotate_left
      · (go_simp; (try (first | with_reducible rfl | (constructor <;> with_reducible rfl))))
      (try simp only [Act.put, nA, nB, nC])
      refine wpList_val (v := ?_) rfl ?_ ?_
      rotate_left
      · (refine Eq.trans (run_load_mid3 40 (.tmp 25) (by rfl) pb (po + m * 10) 10 (by rfl) (LI m) C0.out _ Tryz.underlying40 rfl idl0) ?_; with_reducible rfl)
      (try simp only [Act.put, nA, nB, nC])
      refine wpList_step (fun K hK => ?_)
      go_simp
      (refine (own26_any (LI m) _).mono ?_); rintro e w2 ⟨rfl, hb⟩; have R1 := Lib.hid (R.out.down hb); clear hb R C0
      (try dsimp only)
      (try simp only [Act.put, nA, nB, nC])
      refine hK _ _ ?_
      clear hK K
      refine wpList_plain rfl (fun Kn hKn => wp_bslo1_B (.tmp 27) (by rfl) (by rfl) (hKn _ _ ?_)); clear hKn Kn; have HA := Lib.hid (Blk.new w2 46 10 (LI m)); have R2 := Lib.hid (R1.out.down ((Below.refl _ _).alloc (Nat.le_refl _) (.cells (arrv 10 (LI m)) 46))); have hz1 := R1.out.below.size; have hz2 := R1.out.l1; have hz3 := R1.out.l2; clear R1; generalize w2.alloc (.cells (arrv 10 (LI m)) 46) = W2 at *
      refine wpList_plain rfl (fun Kn hKn => wp_appOut_B (.tmp 22) (.tmp 28) (by rfl) (by rfl) R2.out.own _ 1 (by rfl) (LI m) HA.out (by omega) (fun g cap w4 h1 h2 h3 => hKn _ _ ?_)); clear hKn Kn; have R3 := Lib.hid (j26_app R2.out h1 h2 h3); clear h1 h2 h3 HA R2
      refine wpList_val (v := ?_) rfl ?_ ?_
      rotate_left
      · (go_simp; (try (first | with_reducible rfl | (constructor <;> with_reducible rfl))))
      (try simp only [Act.put, nA, nB, nC])
      refine wpList_nil ?_
      go_wp2_with fail
      go_roundw
      case rel => exact ⟨m + 1, _, by omega, rfl, by go_num, R3⟩
      case measure => simp [intOf]; omega
    · obtain rfl : m = n := by omega
      have d1 : decide (m < m) = false := by simp
      have d2 : decide ((m : Int) < (m : Int)) = false := by simp
      obtain ⟨q2, g2, cp2, rfl, hq2, hc2⟩ := R.out.form
      have F2 := Lib.hid (And.intro hq2 hc2)
      clear hq2 hc2
      obtain ⟨H, hH⟩ : ∃ x, jnH false LI m = x := ⟨_, rfl⟩
      have EH := Lib.hid hH
      have ER := Lib.hid (show rjH false LI m = H by rw [rjH_jn, hH])
      clear hH
      have hbb : (H == H) = true := by simp
      have CA := Lib.hid (fun (x : World) (b : Below w.heap.size w x) (h0 : 0 < m) => show ∃ gb off, q = some ⟨gb, off, none⟩ ∧ ∀ i, i < m → ∀ j, j < 10 → x.cell? ⟨gb, off + (i * 10 + j), none⟩ = some (.int .i64 (LI i j)) from
        ⟨pb, po, HQ.out h0, fun i hi j hj => by rw [← Nat.add_assoc]; exact CL.out i hi j hj x b⟩)
      go_upto_region 12 with fail
      clear d1 d2
      have HS := Lib.hid R.out.drew
      clear R
      (try simp only [Act.put])
      refine wp_region_M (fun _ => True) 8 (by kernel_rfl) ?_ (fun hHeld => ?_)
      · trivial
      refine wpAnyM_takeX [4, 5, 8, 9, 10, 11, 12, 13, 14, 15, 16, 17, 18, 19, 20, 21, 22] 0 (v := ?_) rfl (by kernel_rfl) (fun _ _ _ h => h) (Or.inl ⟨by rfl, ?_⟩) (by assumption) ?_
      rotate_left
      · (intro wx hSw; (try dsimp only at hSw); go_simp; (try with_reducible rfl))
      (try simp only [Act.put, nA, nB, nC])
      refine wpAnyM_takeX [3, 4, 5, 8, 9, 10, 11, 12, 13, 14, 15, 16, 17, 18, 19, 20, 21, 22] 2 (v := ?_) rfl (by kernel_rfl) (fun _ _ _ h => h) (Or.inl ⟨by rfl, ?_⟩) (by assumption) ?_
      rotate_left
      · (intro wx hSw; (try dsimp only at hSw); go_simp; (try with_reducible rfl))
      (try simp only [Act.put, nA, nB, nC])
      refine wpAnyM_take 6 (v := ?_) rfl (by kernel_rfl) (fun _ _ _ h => h) (Or.inl ⟨by rfl, ?_⟩) (by assumption) ?_
      rotate_left
      · (intro wx hSw; (try dsimp only at hSw); go_simp; (try with_reducible rfl))
      (try simp only [Act.put, nA, nB, nC])
      refine wpAnyM_take 7 (v := ?_) rfl (by kernel_rfl) (fun _ _ _ h => h) (Or.inl ⟨by rfl, ?_⟩) (by assumption) ?_
      rotate_left
      · (intro wx hSw; (try dsimp only at hSw); go_simp; (try with_reducible rfl))
      (try simp only [Act.put, nA, nB, nC])
      refine wpAnyM_oneS 1 rfl (by kernel_rfl) (fun K hK => ?_)
      refine if_pos_of (by rfl) (wp_bslo0_A (by rfl) ?_); have HA0 := j26_nil HS.out LI _ (by first | (simp; rfl) | rfl); have HA := Lib.hid HA0.1; have HB := Lib.hid HA0.2; clear HA0; have HS2 := Lib.hid (HS.out.down ((Below.refl _ _).alloc (Nat.le_refl _) (.cells #[] 40))); clear HS; have HS := HS2; clear HS2
      clear hHeld
      refine hK.out _ _ ?_ (fun hHeld => ?_)
      · trivial
      clear hK K
      (try simp only [Act.put, nA, nB, nC])
      refine wpAnyM_oneS 3 rfl (by kernel_rfl) (fun K hK => ?_)
      refine if_pos_of (by rfl) (wp_appAllO_A (.tmp 31) (.tmp 32) rfl _ q m cp LI rfl rfl HA.out.1 (CA.out _ HS.out.below) (by have := HN.out; omega) HA.out.2.1 (fun gA capA w5 h1 h2 h3 => ?_)); have HA2 := Lib.hid (j26_listA HS.out HA.out h1 h3); have HS2 := Lib.hid (j26_otherA HS.out HB.out.2 HA.out HB.out.1 h2); clear HS HA HB h1 h2 h3; have HS := HS2; have HA := HA2; clear HS2 HA2
      clear hHeld
      refine hK.out _ _ ?_ (fun hHeld => ?_)
      · trivial
      clear hK K
      (try simp only [Act.put, nA, nB, nC])
      refine wpAnyM_oneS 4 rfl (by kernel_rfl) (fun K hK => ?_)
      go_simp
      (refine (join_any ⟨bc, 0, none⟩ false _ _ 0 m _ LI _ HS.out.c1 HS.out.f1 (by have := HN.out; omega) (fun _ => rfl) HA.out.2.2.2).mono ?_); (rw [EH.out]); rintro e w6 ⟨rfl, hu⟩; clear HA; have HS2 := Lib.hid (HS.out.updB hu); clear HS hu; have HS := HS2; clear HS2
      (try dsimp only)
      (try simp only [Act.put, nA, nB, nC])
      clear hHeld
      refine hK.out _ _ ?_ (fun hHeld => ?_)
      · trivial
      clear hK K
      (try simp only [Act.put, nA, nB, nC])
      refine wpAnyM_oneS 5 rfl (by kernel_rfl) (fun K hK => ?_)
      go_simp
      (refine (own26_any (jnR LI m) _).mono ?_); rintro e w7 ⟨rfl, hb⟩; have HS2 := Lib.hid (HS.out.down hb); clear HS hb; have HS := HS2; clear HS2
      (try dsimp only)
      (try simp only [Act.put, nA, nB, nC])
      clear hHeld
      refine hK.out _ _ ?_ (fun hHeld => ?_)
      · trivial
      clear hK K
      (try simp only [Act.put, nA, nB, nC])
      refine wpAnyM_one 8 rfl (by kernel_rfl) (fun K hK => ?_)
      go_simp
      (refine (rjoin_any ⟨rc, 0, none⟩ false q2 g2 0 m cp2 LI _ HS.out.c2 HS.out.f2 (by have := HN.out; omega) F2.out.1 (F2.out.2 _ HS.out.own)).mono ?_); (rw [ER.out]); rintro e w8 ⟨rfl, hu⟩; (try (first | (have HA2 := Lib.hid (j26_keepA HA.out hu)) | (have HA2 := Lib.hid (j26_keepL HA.out hu)); clear HA; have HA := HA2; clear HA2)); have HS2 := Lib.hid (HS.out.updR hu); clear HS hu; have HS := HS2; clear HS2
      (try dsimp only)
      (try simp only [Act.put, nA, nB, nC])
      refine hK.out _ _ (.inl (by kernel_rfl)) (fun _ => ?_)
      clear hK K
      (try simp only [Act.put, nA, nB, nC])
      refine wpAnyM_switch (fun w' => w'.cell? ⟨bc, 0, none⟩ = some (.bool H) ∧ w'.cell? ⟨rc, 0, none⟩ = some (.bool H)) 22 (by kernel_rfl) ?_ (fun hHeld => ?_)
      · exact ⟨HS.out.c1, HS.out.c2⟩
      refine wpAnyM_take 9 (v := ?_) rfl (by kernel_rfl) (fun _ _ _ h => h) (Or.inl ⟨by rfl, ?_⟩) (by assumption) ?_
      rotate_left
      · (intro wx hSw; refine Eq.trans (run_op_eqlRd (.tmp 35) (.tmp 38) (by rfl) (by rfl) (by rfl)) ?_; with_reducible rfl)
      (try simp only [Act.put, nA, nB, nC])
      refine wpAnyM_take 10 (v := ?_) rfl (by kernel_rfl) (fun _ _ _ h => h) (Or.inl ⟨by rfl, ?_⟩) (by assumption) ?_
      rotate_left
      · (intro wx hSw; (try dsimp only at hSw); go_simp; (try with_reducible rfl))
      (try simp only [Act.put, nA, nB, nC])
      first | (refine wpAnyM_take 11 (v := ?_) rfl (by kernel_rfl) (fun _ _ _ h => h) (Or.inl ⟨by rfl, ?_⟩) (by assumption) ?_; rotate_left; focus ((intro wx hSw; (try dsimp only at hSw); go_simp; (try with_reducible rfl)))) | (refine wpAnyM_take 11 rfl (by kernel_rfl) (fun _ _ _ h => h) (Or.inr ⟨by rfl, rfl⟩) (by assumption) ?_)
      (try simp only [Act.put, nA, nB, nC])
      first | (refine wpAnyM_take 12 (v := ?_) rfl (by kernel_rfl) (fun _ _ _ h => h) (Or.inl ⟨by rfl, ?_⟩) (by assumption) ?_; rotate_left; focus ((intro wx hSw; (try dsimp only at hSw); go_simp; (try with_reducible rfl)))) | (refine wpAnyM_take 12 rfl (by kernel_rfl) (fun _ _ _ h => h) (Or.inr ⟨by rfl, rfl⟩) (by assumption) ?_)
      (try simp only [Act.put, nA, nB, nC])
      first | (refine wpAnyM_take 13 (v := ?_) rfl (by kernel_rfl) (fun _ _ _ h => h) (Or.inl ⟨by rfl, ?_⟩) (by assumption) ?_; rotate_left; focus ((intro wx hSw; (try dsimp only at hSw); go_simp; (try with_reducible rfl)))) | (refine wpAnyM_take 13 rfl (by kernel_rfl) (fun _ _ _ h => h) (Or.inr ⟨by rfl, rfl⟩) (by assumption) ?_)
      (try simp only [Act.put, nA, nB, nC])
      first | (refine wpAnyM_take 14 (v := ?_) rfl (by kernel_rfl) (fun _ _ _ h => h) (Or.inl ⟨by rfl, ?_⟩) (by assumption) ?_; rotate_left; focus ((intro wx hSw; have q := hSw.1; go_simp; (try with_reducible rfl)))) | (refine wpAnyM_take 14 rfl (by kernel_rfl) (fun _ _ _ h => h) (Or.inr ⟨by rfl, rfl⟩) (by assumption) ?_)
      (try simp only [Act.put, nA, nB, nC])
      first | (refine wpAnyM_take 15 (v := ?_) rfl (by kernel_rfl) (fun _ _ _ h => h) (Or.inl ⟨by rfl, ?_⟩) (by assumption) ?_; rotate_left; focus ((intro wx hSw; (try dsimp only at hSw); go_simp; (try with_reducible rfl)))) | (refine wpAnyM_take 15 rfl (by kernel_rfl) (fun _ _ _ h => h) (Or.inr ⟨by rfl, rfl⟩) (by assumption) ?_)
      (try simp only [Act.put, nA, nB, nC])
      first | (refine wpAnyM_take 16 (v := ?_) rfl (by kernel_rfl) (fun _ _ _ h => h) (Or.inl ⟨by rfl, ?_⟩) (by assumption) ?_; rotate_left; focus ((intro wx hSw; (try dsimp only at hSw); go_simp; (try with_reducible rfl)))) | (refine wpAnyM_take 16 rfl (by kernel_rfl) (fun _ _ _ h => h) (Or.inr ⟨by rfl, rfl⟩) (by assumption) ?_)
      (try simp only [Act.put, nA, nB, nC])
      first | (refine wpAnyM_take 17 (v := ?_) rfl (by kernel_rfl) (fun _ _ _ h => h) (Or.inl ⟨by rfl, ?_⟩) (by assumption) ?_; rotate_left; focus ((intro wx hSw; (try dsimp only at hSw); go_simp; (try with_reducible rfl)))) | (refine wpAnyM_take 17 rfl (by kernel_rfl) (fun _ _ _ h => h) (Or.inr ⟨by rfl, rfl⟩) (by assumption) ?_)
      (try simp only [Act.put, nA, nB, nC])
      first | (refine wpAnyM_take 18 (v := ?_) rfl (by kernel_rfl) (fun _ _ _ h => h) (Or.inl ⟨by rfl, ?_⟩) (by assumption) ?_; rotate_left; focus ((intro wx hSw; (try dsimp only at hSw); go_simp; (try with_reducible rfl)))) | (refine wpAnyM_take 18 rfl (by kernel_rfl) (fun _ _ _ h => h) (Or.inr ⟨by rfl, rfl⟩) (by assumption) ?_)
      (try simp only [Act.put, nA, nB, nC])
      first | (refine wpAnyM_take 19 (v := ?_) rfl (by kernel_rfl) (fun _ _ _ h => h) (Or.inl ⟨by rfl, ?_⟩) (by assumption) ?_; rotate_left; focus ((intro wx hSw; have q := hSw.2; go_simp; (try with_reducible rfl)))) | (refine wpAnyM_take 19 rfl (by kernel_rfl) (fun _ _ _ h => h) (Or.inr ⟨by rfl, rfl⟩) (by assumption) ?_)
      (try simp only [Act.put, nA, nB, nC])
      first | (refine wpAnyM_take 20 (v := ?_) rfl (by kernel_rfl) (fun _ _ _ h => h) (Or.inl ⟨by rfl, ?_⟩) (by assumption) ?_; rotate_left; focus ((intro wx hSw; (try dsimp only at hSw); go_simp; (try with_reducible rfl)))) | (refine wpAnyM_take 20 rfl (by kernel_rfl) (fun _ _ _ h => h) (Or.inr ⟨by rfl, rfl⟩) (by assumption) ?_)
      (try simp only [Act.put, nA, nB, nC])
      refine wpAnyM_take 21 (v := ?_) rfl (by kernel_rfl) (fun _ _ _ h => h) (Or.inl ⟨by rfl, ?_⟩) (by assumption) ?_
      rotate_left
      · (intro wx hSw; (try dsimp only at hSw); go_simp; (try with_reducible rfl))
      (try simp only [Act.put, nA, nB, nC])
      refine wpAnyM_one 22 rfl (by kernel_rfl) (fun K hK => ?_)
      go_simp
      refine hK.out _ _ (.inl (by kernel_rfl)) (fun _ => ?_)
      clear hK K
      (try simp only [Act.put, nA, nB, nC])
      refine wpAnyM_done (by kernel_rfl) ?_ _
      (go_wp2_with fail; go_ret; exact ⟨rfl, HS.out.below⟩)
end Go.Proofs.YtgfklheepkgedaaGreat
