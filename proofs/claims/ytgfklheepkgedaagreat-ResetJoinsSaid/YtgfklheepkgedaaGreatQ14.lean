/- Contracts of the program's functions and plain laws, part 14: they hold for all arguments. -/
import Derived.Test.YtgfklheepkgedaaGreatQ04
import Derived.Test.YtgfklheepkgedaaGreatQ13
import Derived.Test.YtgfklheepkgedaaGreatQ12
import Derived.Test.YtgfklheepkgedaaGreatQ09
import Derived.Test.YtgfklheepkgedaaGreatQ08
import Derived.Test.YtgfklheepkgedaaGreatQ07
/- '==' of a jump with itself; four jumps, built as a slice. -/
namespace Go.Proofs.YtgfklheepkgedaaGreat
open Go.RowKit
open Go
set_option maxRecDepth 100000
theorem run_equalIn_dl (d : Nat) (w : World) (f : Nat → Int) : (Op.equalIn (d + 3) 40 (.agg (arrv 10 f)) (.agg (arrv 10 f))).run Tryz.prog w = .ok true w := by
  have hf := fieldsOf_of Tryz.underlying40
  rw [show d + 3 = (d + 2) + 1 from rfl, run_equalIn_struct w (d + 2) _ _ _ (by rw [hf]; exact Tryz.underlying40) (by kernel_rfl), hf]
  have hi22 : ∃ i, Tryz.prog.info? 38 = some i ∧ i.size = 4 := by
    have h : (Tryz.prog.info? 38).map (·.size) = some 4 := by kernel_rfl
    cases e : Tryz.prog.info? 38 with
    | none => rw [e] at h; cases h
    | some i => rw [e] at h; exact ⟨i, rfl, by simpa using h⟩
  have hi23 : ∃ i, Tryz.prog.info? 28 = some i ∧ i.size = 3 := by
    have h : (Tryz.prog.info? 28).map (·.size) = some 3 := by kernel_rfl
    cases e : Tryz.prog.info? 28 with
    | none => rw [e] at h; cases h
    | some i => rw [e] at h; exact ⟨i, rfl, by simpa using h⟩
  have hi2 : ∃ i, Tryz.prog.info? 2 = some i ∧ i.size = 1 := by
    have h : (Tryz.prog.info? 2).map (·.size) = some 1 := by kernel_rfl
    cases e : Tryz.prog.info? 2 with
    | none => rw [e] at h; cases h
    | some i => rw [e] at h; exact ⟨i, rfl, by simpa using h⟩
  obtain ⟨i22, h22, s22⟩ := hi22
  obtain ⟨i23, h23, s23⟩ := hi23
  obtain ⟨i2, h2, s2⟩ := hi2
  have hc : Tryz.prog.cellsOf 2 = 1 := by simp [Program.cellsOf, h2, s2]
  have p0 := run_part_vec (w := w) (m := 10) Tryz.underlying38 h22 s22 0 f (by omega)
  have p1 := run_part_vec (w := w) (m := 10) Tryz.underlying28 h23 s23 4 f (by omega)
  have p2 := run_part_vec (w := w) (m := 10) Tryz.underlying28 h23 s23 7 f (by omega)
  have q0 := fun g => (run_equalIn_vec (w := w) d Tryz.underlying38 Tryz.underlying2 hc h2 g g).trans (by rw [eqB_iff.2 fun _ _ => rfl])
  have q1 := fun g => (run_equalIn_vec (w := w) d Tryz.underlying28 Tryz.underlying2 hc h2 g g).trans (by rw [eqB_iff.2 fun _ _ => rfl])
  have z : (Op.eqFields (d + 2) (arrv 10 f) (arrv 10 f) []).run Tryz.prog w = .ok true w := by simp [Op.eqFields]
  have e2 := run_eqFields_cons (f := ⟨"Pos", 28, 7, false, "", "", 56⟩) (by decide) p2 p2 (q1 _) z
  have e1 := run_eqFields_cons (f := ⟨"Vel", 28, 4, false, "", "", 32⟩) (by decide) p1 p1 (q1 _) e2
  have e0 := run_eqFields_cons (f := ⟨"Turn", 38, 0, false, "", "", 0⟩) (by decide) p0 p0 (q0 _) e1
  exact e0
theorem run_equal_dl (w : World) (f : Nat → Int) : (Op.equal 40 (.agg (arrv 10 f)) (.agg (arrv 10 f))).run Tryz.prog w = .ok true w := run_equalIn_dl 9997 w f
theorem run_op_eqlDl {o : Oper} {ev : Operand → Value} {w : World} (x y : Operand) (ho : o.op = .binOp .eql 40 x y 40) {f : Nat → Int} (hx : ev x = .agg (arrv 10 f)) (hy : ev y = .agg (arrv 10 f)) :
    (execOp ev o).run Tryz.prog w = .ok (.value (.bool true)) w := by
  have e := run_equal_dl w f
  have hG : Tryz.prog.eqGuardType Tryz.prog.depth 40 = false := by kernel_rfl
  unfold execOp
  simp only [ho, hx, hy, eqGuard, binOp, Sem.run_bind, Sem.run_pure, Result.andThen_ok]
  simp [hG, e, go_sem]
/-- Four jumps, one behind the other. -/
def side10 (L : Nat → Nat → Int) : Nat → Int := fun i => L (i / 10) (i % 10)
def d4L (A B C D : Nat → Int) : Nat → Nat → Int | 0 => A | 1 => B | 2 => C | _ => D
theorem filld4 (A B C D : Nat → Int) (Z : Array Value) (hZ : Z = arrv 40 (fun _ => 0)) : Instr.fill (fun i => some (i * 10, 10)) Z [(0, .agg (arrv 10 A)), (1, .agg (arrv 10 B)), (2, .agg (arrv 10 C)), (3, .agg (arrv 10 D))] = some (arrv 40 (side10 (d4L A B C D))) := by
  subst hZ; kernel_rfl
theorem zrange40 (Z : Array Value) (hZ : Z = arrv 10 (fun _ => 0)) : (Array.range (4 * 10)).map (fun i => Z[i % Z.size]!) = arrv 40 (fun _ => 0) := by
  subst hZ; kernel_rfl
theorem run_bsld4 (A B C D : Nat → Int) (w : World) : (Instr.buildSlice 57 4 #[(0, .agg (arrv 10 A)), (1, .agg (arrv 10 B)), (2, .agg (arrv 10 C)), (3, .agg (arrv 10 D))]).run Tryz.prog w = .ok (.slice (some ⟨w.heap.size, 0, none⟩) 4 4) (w.alloc (.cells (arrv 40 (side10 (d4L A B C D))) 40)) := by
  have hz : (zeroValue 40).run Tryz.prog w = .ok (.agg (arrv 10 (fun _ => 0))) w := by kernel_rfl
  have hs : (sizeOf 40).run Tryz.prog w = .ok 10 w := by kernel_rfl
  unfold Instr.buildSlice
  simp only [Sem.run_bind, run_underlying Tryz.underlying57, Result.andThen_ok, hs]
  rw [if_neg (by decide), if_neg (by decide)]
  have hf : Instr.fill (fun i => some (i * 10, 10)) (Array.map (fun x => (Value.agg (arrv 10 (fun _ => 0))).cells[x % (Value.agg (arrv 10 (fun _ => 0))).cells.size]!) (Array.range (4 * 10))) [(0, Value.agg (arrv 10 A)), (1, Value.agg (arrv 10 B)), (2, Value.agg (arrv 10 C)), (3, Value.agg (arrv 10 D))] = some (arrv 40 (side10 (d4L A B C D))) :=
    filld4 A B C D _ (zrange40 (arrv 10 (fun _ => 0)) rfl)
  simp only [Sem.run_bind, hz, Result.andThen_ok, Sem.run_pure, hf]
  simp [newRow, newObj, go_sem]
  rfl
theorem wpList_bsld4 {w : World} {ops : Array Oper} {rest : List Oper} {o : Oper} {a : Act} {Q : Exit → Act → World → Prop} {A B C D : Nat → Int} (hgd : o.guard = none) (x y z u : Operand) (ho : o.op = .buildSlice 57 4 #[(0, x), (1, y), (2, z), (3, u)])
    (hx : a.eval x = .agg (arrv 10 A)) (hy : a.eval y = .agg (arrv 10 B)) (hz : a.eval z = .agg (arrv 10 C)) (hu : a.eval u = .agg (arrv 10 D))
    (h : wpList Tryz.prog ops Q rest (a.put o.dst (.slice (some ⟨w.heap.size, 0, none⟩) 4 4)) (w.alloc (.cells (arrv 40 (side10 (d4L A B C D))) 40))) : wpList Tryz.prog ops Q (o :: rest) a w :=
  wpList_plain hgd fun K hK => by
    unfold Oper.wp execOp
    simp only [ho, Sem.run_bind, List.map_toArray, List.map_cons, List.map_nil, hx, hy, hz, hu, run_bsld4 A B C D w, Result.andThen_ok]
    exact hK _ _ h
end Go.Proofs.YtgfklheepkgedaaGreat
/- Begun anew: the matrix and the variances of a run of states, as plain laws have them. -/
namespace Go.Proofs.YtgfklheepkgedaaGreat
/-- The states of a run. -/
def rtR (fr : Int) (n : Nat) (i : Nat) : Bool := decide (fr ≤ i ∧ (i : Int) < fr + n ∧ i < 24)
theorem rtF_eq (fr : Int) : ∀ n, rtF fr n = rsF (rtR fr n)
  | 0 => by
    funext x
    unfold rtF oneF rsF
    have : rtR fr 0 (x / 24) = false := by unfold rtR; simp; omega
    rw [this]
    split <;> split <;> first | rfl | (simp_all; done) | omega
  | n + 1 => by
    funext x
    simp only [rtF]
    rw [rtF_eq fr n]
    by_cases hI : rtI fr n = true
    · have hb : 0 ≤ fr + n ∧ fr + n < 24 := by unfold rtI at hI; simpa using hI
      rw [if_pos hI]
      obtain ⟨i, hi⟩ : ∃ i : Nat, fr + n = (i : Int) := ⟨(fr + n).toNat, by omega⟩
      rw [hi, Int.toNat_natCast]
      have hi24 : i < 24 := by omega
      unfold Go.Proofs.YtgfklheepkgedaaGreat.upd rsF
      by_cases hx : x = i * 24 + i
      · subst hx
        rw [if_pos rfl, if_neg]
        intro h
        have h2 := h.2
        rw [show (i * 24 + i) / 24 = i by omega] at h2
        unfold rtR at h2
        simp at h2
        omega
      · rw [if_neg hx]
        have hR : x / 24 = x % 24 → rtR fr (n + 1) (x / 24) = rtR fr n (x / 24) := by
          intro hd
          have hne : x / 24 ≠ i := by omega
          unfold rtR
          rw [Bool.eq_iff_iff]
          simp
          omega
        by_cases hd : x / 24 = x % 24
        · rw [hR hd]
        · rw [if_neg (fun h => hd h.1), if_neg (fun h => hd h.1)]
    · have hb : ¬ (0 ≤ fr + n ∧ fr + n < 24) := by unfold rtI at hI; simpa using hI
      rw [if_neg hI]
      have hR : ∀ i, rtR fr (n + 1) i = rtR fr n i := by
        intro i
        unfold rtR
        rw [Bool.eq_iff_iff]
        simp
        omega
      unfold rsF
      rw [hR]
theorem rtQ_at (fr : Int) (L : Nat → Int) : ∀ n i, i < 24 → rtQ fr L n i = if rtR fr n i = true then varV (L ((i : Int) - fr).toNat) else 0
  | 0, i, hi => by
    have : rtR fr 0 i = false := by unfold rtR; simp; omega
    rw [this]; rfl
  | n + 1, i, hi => by
    simp only [rtQ]
    by_cases hI : rtI fr n = true
    · have hb : 0 ≤ fr + n ∧ fr + n < 24 := by unfold rtI at hI; simpa using hI
      rw [if_pos hI]
      unfold Go.Proofs.YtgfklheepkgedaaGreat.upd
      by_cases hx : i = (fr + (n : Int)).toNat
      · rw [if_pos hx, if_pos (by unfold rtR; simp; omega), show ((i : Int) - fr).toNat = n by omega]
      · rw [if_neg hx, rtQ_at fr L n i hi]
        have : rtR fr (n + 1) i = rtR fr n i := by unfold rtR; rw [Bool.eq_iff_iff]; simp; omega
        rw [this]
    · have hb : ¬ (0 ≤ fr + n ∧ fr + n < 24) := by unfold rtI at hI; simpa using hI
      rw [if_neg hI, rtQ_at fr L n i hi]
      have : rtR fr (n + 1) i = rtR fr n i := by unfold rtR; rw [Bool.eq_iff_iff]; simp; omega
      rw [this]
end Go.Proofs.YtgfklheepkgedaaGreat
/- A covariance without numbers in U: a run of states begun anew (plain law). No program beyond the numbers' names. -/
namespace Go.Proofs.YtgfklheepkgedaaGreat
/-- A run of states of a covariance without numbers in U, begun anew: exact, and no flag. -/
theorem reset_diag {f L : Nat → Int} (hf : DiagF f) {fr n : Nat} (hn : fr + n ≤ 24) (hL : ∀ k, k < n → 1 ≤ L k ∧ L k ≤ 72057594037927936) :
    DiagF (stepF f (rtF fr n) (rtQ fr L n)) ∧ (∀ i, i < 24 → stepF f (rtF fr n) (rtQ fr L n) (276 + i) = if fr ≤ i ∧ i < fr + n then L (i - fr) else f (276 + i)) ∧ stepH f (rtF fr n) (rtQ fr L n) = false ∧ orB (rtB fr L) n = false := by
  have hR : ∀ i, i < 24 → rtR fr n i = decide (fr ≤ i ∧ i < fr + n) := fun i _ => by unfold rtR; rw [Bool.eq_iff_iff]; simp; omega
  have hQ : ∀ i, i < 24 → rtQ fr L n i = if fr ≤ i ∧ i < fr + n then L (i - fr) else 0 := fun i hi => by
    rw [rtQ_at fr _ n i hi, hR i hi]
    by_cases h : fr ≤ i ∧ i < fr + n
    · have b := hL (i - fr) (by omega)
      rw [if_pos (by simp [h]), if_pos h, show ((i : Int) - (fr : Int)).toNat = i - fr by omega]
      exact (varV_id b.1 b.2).1
    · rw [if_neg (by simp; omega), if_neg h]
  have hE : ∀ i, i < 24 → dgE (rtR fr n) (fun i => f (276 + i)) i = if fr ≤ i ∧ i < fr + n then 0 else f (276 + i) := fun i hi => by
    unfold dgE; rw [hR i hi]
    by_cases h : fr ≤ i ∧ i < fr + n
    · rw [if_pos (by simp [h]), if_pos h]
    · rw [if_neg (by simp; omega), if_neg h]
  have hP : RsP (rtR fr n) f := ⟨fun i j h1 h2 => by rw [hf.1 _ (pl_lt h1 h2)]; omega, fun i j h1 h2 _ => hf.1 _ (pl_lt h1 h2), hf.2⟩
  have hS : ∀ i, i < 24 → dgE (rtR fr n) (fun i => f (276 + i)) i + rtQ fr L n i = if fr ≤ i ∧ i < fr + n then L (i - fr) else f (276 + i) := fun i hi => by
    rw [hE i hi, hQ i hi]
    by_cases h : fr ≤ i ∧ i < fr + n
    · rw [if_pos h, if_pos h, if_pos h, Int.zero_add]
    · rw [if_neg h, if_neg h, if_neg h, Int.add_zero]
  have hB : ∀ i, i < 24 → 1 ≤ (if fr ≤ i ∧ i < fr + n then L (i - fr) else f (276 + i)) ∧ (if fr ≤ i ∧ i < fr + n then L (i - fr) else f (276 + i)) ≤ 72057594037927936 := fun i hi => by
    split
    · exact hL _ (by omega)
    · exact hf.2 i hi
  obtain ⟨h1, h2⟩ := step_reset hP (q := rtQ fr L n) (fun i hi => by
    rw [hQ i hi]
    split
    · have := hL (i - fr) (by omega); omega
    · omega) (fun i hi => by rw [hS i hi]; exact hB i hi)
  rw [rtF_eq]
  refine ⟨⟨fun x hx => by rw [h1 x (by omega), if_pos hx], fun i hi => ?_⟩, fun i hi => ?_, h2, orB_noB fun k hk => ?_⟩
  · rw [h1 _ (by omega), if_neg (by omega), show 276 + i - 276 = i by omega, hS i hi]; exact hB i hi
  · rw [h1 _ (by omega), if_neg (by omega), show 276 + i - 276 = i by omega, hS i hi]
  · have b := hL k hk
    unfold rtB
    split
    · exact (varV_id b.1 b.2).2
    · rfl
end Go.Proofs.YtgfklheepkgedaaGreat
/- The blocks of reset's jumps. -/
namespace Go.Proofs.YtgfklheepkgedaaGreat
open Go.RowKit
set_option maxRecDepth 100000
/-- The estimate behind a jump. -/
def jpS (S : Nat → Int) (fr : Nat) (L : Nat → Int) (n : Nat) : Nat → Int := keepF (mvS (keepF S) fr L n)
def jpH (h : Bool) (S : Nat → Int) (fr : Nat) (L : Nat → Int) (n : Nat) : Bool := h || keepH S || orB (mvB (keepF S) fr L) n || keepH (mvS (keepF S) fr L n)
def two2 (a b : Int) : Nat → Int := fun i => if i = 0 then a else b
theorem slc_b1 (w : World) (x : Int) : Slc (w.alloc (.cells #[.int .i64 x] 2)) (some ⟨w.heap.size, 0, none⟩) 1 (fun _ => x) := by
  intro i hi
  obtain rfl : i = 0 := by omega
  exact ⟨_, _, rfl, by simp [go_sem]⟩
theorem slc_b2 (w : World) (x y : Int) : Slc (w.alloc (.cells #[.int .i64 x, .int .i64 y] 2)) (some ⟨w.heap.size, 0, none⟩) 2 (two2 x y) := by
  intro i hi
  obtain rfl | rfl : i = 0 ∨ i = 1 := by omega
  · exact ⟨_, _, rfl, by simp [go_sem, two2]⟩
  · exact ⟨_, _, rfl, by simp [go_sem, two2]⟩
theorem slc_v1 (w : World) (x : Int) : Slc (w.alloc (.cells #[.int .i64 x] 2)) (some ⟨w.heap.size, 0, none⟩) 1 (fun _ => x) := slc_b1 w x
theorem slc_v2 (w : World) (x : Int) : Slc (w.alloc (.cells #[.int .i64 x, .int .i64 x] 2)) (some ⟨w.heap.size, 0, none⟩) 2 (fun _ => x) := by
  intro i hi
  obtain rfl | rfl : i = 0 ∨ i = 1 := by omega
  · exact ⟨_, _, rfl, by simp [go_sem]⟩
  · exact ⟨_, _, rfl, by simp [go_sem]⟩
theorem slc_v3 (w : World) (x : Int) : Slc (w.alloc (.cells #[.int .i64 x, .int .i64 x, .int .i64 x] 2)) (some ⟨w.heap.size, 0, none⟩) 3 (fun _ => x) := by
  intro i hi
  obtain rfl | rfl | rfl : i = 0 ∨ i = 1 ∨ i = 2 := by omega
  · exact ⟨_, _, rfl, by simp [go_sem]⟩
  · exact ⟨_, _, rfl, by simp [go_sem]⟩
  · exact ⟨_, _, rfl, by simp [go_sem]⟩
theorem Slc.of_blk {w : World} {b T n : Nat} {f : Nat → Int} (h : Blk w b T n f) : Slc w (some ⟨b, 0, none⟩) n f := fun i hi => ⟨b, 0, rfl, by rw [Nat.zero_add]; exact h.cell hi⟩
structure JpR (c : Addr) (h : Bool) (z : Nat) (F P : Nat → Int) (w wr : World) : Prop where
  upd : Upd c h w wr
  s : Blk wr w.heap.size 23 24 F
  p : Blk wr (w.heap.size + 1) 26 300 P
  r0 : Blk wr z 23 24 (fun _ => 0)
  r1 : Blk wr (z + 1) 26 300 (fun _ => 0)
  r2 : Blk wr (z + 1 + 1) 42 11 (fun _ => 0)
  lt : w.heap.size + 1 < z
theorem JpR.upd' {c : Addr} {h h' : Bool} {z : Nat} {F P : Nat → Int} {w wr w' : World} (s : JpR c h z F P w wr) (hc : c.block < w.heap.size) (u : Upd c h' wr w') : JpR c h' z F P w w' := by
  have := s.lt
  exact ⟨s.upd.trans u, s.s.upd u (by omega), s.p.upd u (by omega), s.r0.upd u (by omega), s.r1.upd u (by omega), s.r2.upd u (by omega), s.lt⟩
theorem JpR.down {c : Addr} {h : Bool} {z : Nat} {F P : Nat → Int} {w wr w' : World} (s : JpR c h z F P w wr) (u : Below wr.heap.size wr w') : JpR c h z F P w w' :=
  ⟨s.upd.then u, s.s.below u, s.p.below u, s.r0.below u, s.r1.below u, s.r2.below u, s.lt⟩
theorem JpR.drew {c : Addr} {h : Bool} {z : Nat} {F P : Nat → Int} {w wr : World} (s : JpR c h z F P w wr) : JpR c h z F P w wr.drew := s.down (Below.drew (Below.refl _ _))
theorem JpR.rowS {c : Addr} {h : Bool} {z : Nat} {F P : Nat → Int} {w wr : World} (s : JpR c h z F P w wr) (G : Nat → Int) : JpR c h z G P w (wr.setRow w.heap.size (arrv 24 G)) := by
  have := s.lt
  exact ⟨s.upd.then' (below_row (Below.refl _ _) (Nat.le_refl _) _), s.s.setRow G, s.p.setRow_other _ (by omega), s.r0.setRow_other _ (by omega), s.r1.setRow_other _ (by omega), s.r2.setRow_other _ (by omega), s.lt⟩
theorem JpR.far {c : Addr} {h : Bool} {z : Nat} {F P : Nat → Int} {w wr : World} (s : JpR c h z F P w wr) {b : Nat} (hb : z + 1 + 1 < b) (cs : Array Value) : JpR c h z F P w (wr.setRow b cs) := by
  have := s.lt
  exact ⟨s.upd.then' (below_row (Below.refl _ _) (by omega) _), s.s.setRow_other _ (by omega), s.p.setRow_other _ (by omega), s.r0.setRow_other _ (by omega), s.r1.setRow_other _ (by omega), s.r2.setRow_other _ (by omega), s.lt⟩
theorem jp_start (c : Addr) (h : Bool) (S P : Nat → Int) (w : World) (hc : w.cell? c = some (.bool h)) :
    JpR c h (w.heap.size + 1 + 1) S P w (((((w.alloc (.cells (arrv 24 S) 23)).alloc (.cells (arrv 300 P) 26)).alloc (.cells #[.int .i64 0, .int .i64 0, .int .i64 0, .int .i64 0, .int .i64 0, .int .i64 0, .int .i64 0, .int .i64 0, .int .i64 0, .int .i64 0, .int .i64 0, .int .i64 0, .int .i64 0, .int .i64 0, .int .i64 0, .int .i64 0, .int .i64 0, .int .i64 0, .int .i64 0, .int .i64 0, .int .i64 0, .int .i64 0, .int .i64 0, .int .i64 0] 23)).alloc (.cells Tryz.zeroCells26 26)).alloc (.cells #[.int .i64 0, .int .i64 0, .int .i64 0, .int .i64 0, .int .i64 0, .int .i64 0, .int .i64 0, .int .i64 0, .int .i64 0, .int .i64 0, .int .i64 0] 42)) := by
  rw [zvec24, zcov, ztd]
  refine ⟨Upd.then (Upd.refl hc) (by (repeat (first | with_reducible exact Below.refl _ _ | with_reducible apply Below.drew | (with_reducible refine below_drewN ?_ _) | (with_reducible refine Below.alloc ?_ (by (try simp) <;> omega) _) | (with_reducible refine Below.setCell ?_ (by (try simp) <;> omega) _)))), ((((Blk.new w _ 24 _).alloc _).alloc _).alloc _).alloc _, (((Blk.new1 w _ _ 300 _).alloc _).alloc _).alloc _, ((blk_new2 w _ _ _ 24 _).alloc _).alloc _, (blk_new3 w _ _ _ _ 300 _).alloc _, ?_, by omega⟩
  have h := blk_new3 (w.alloc (.cells (arrv 24 S) 23)) (.cells (arrv 300 P) 26) (.cells (arrv 24 (fun _ => 0)) 23) (.cells (arrv 300 (fun _ => 0)) 26) 42 11 (fun _ => 0)
  rwa [show (w.alloc (.cells (arrv 24 S) 23)).heap.size = w.heap.size + 1 from by simp] at h
theorem jp_startV (c : Addr) (h : Bool) (S P T : Nat → Int) (w : World) (hc : w.cell? c = some (.bool h)) :
    JpR c h (w.heap.size + 1 + 1 + 1) S P w ((((((w.alloc (.cells (arrv 24 S) 23)).alloc (.cells (arrv 300 P) 26)).alloc (.cells (arrv 3 T) 28)).alloc (.cells #[.int .i64 0, .int .i64 0, .int .i64 0, .int .i64 0, .int .i64 0, .int .i64 0, .int .i64 0, .int .i64 0, .int .i64 0, .int .i64 0, .int .i64 0, .int .i64 0, .int .i64 0, .int .i64 0, .int .i64 0, .int .i64 0, .int .i64 0, .int .i64 0, .int .i64 0, .int .i64 0, .int .i64 0, .int .i64 0, .int .i64 0, .int .i64 0] 23)).alloc (.cells Tryz.zeroCells26 26)).alloc (.cells #[.int .i64 0, .int .i64 0, .int .i64 0, .int .i64 0, .int .i64 0, .int .i64 0, .int .i64 0, .int .i64 0, .int .i64 0, .int .i64 0, .int .i64 0] 42)) ∧
    Blk ((((((w.alloc (.cells (arrv 24 S) 23)).alloc (.cells (arrv 300 P) 26)).alloc (.cells (arrv 3 T) 28)).alloc (.cells #[.int .i64 0, .int .i64 0, .int .i64 0, .int .i64 0, .int .i64 0, .int .i64 0, .int .i64 0, .int .i64 0, .int .i64 0, .int .i64 0, .int .i64 0, .int .i64 0, .int .i64 0, .int .i64 0, .int .i64 0, .int .i64 0, .int .i64 0, .int .i64 0, .int .i64 0, .int .i64 0, .int .i64 0, .int .i64 0, .int .i64 0, .int .i64 0] 23)).alloc (.cells Tryz.zeroCells26 26)).alloc (.cells #[.int .i64 0, .int .i64 0, .int .i64 0, .int .i64 0, .int .i64 0, .int .i64 0, .int .i64 0, .int .i64 0, .int .i64 0, .int .i64 0, .int .i64 0] 42)) (w.heap.size + 1 + 1) 28 3 T := by
  rw [zvec24, zcov, ztd]
  have e1 : (w.alloc (.cells (arrv 24 S) 23)).heap.size = w.heap.size + 1 := by simp
  have e2 : ((w.alloc (.cells (arrv 24 S) 23)).alloc (.cells (arrv 300 P) 26)).heap.size = w.heap.size + 1 + 1 := by simp
  refine ⟨⟨Upd.then (Upd.refl hc) (by (repeat (first | with_reducible exact Below.refl _ _ | with_reducible apply Below.drew | (with_reducible refine below_drewN ?_ _) | (with_reducible refine Below.alloc ?_ (by (try simp) <;> omega) _) | (with_reducible refine Below.setCell ?_ (by (try simp) <;> omega) _)))), (((((Blk.new w _ 24 _).alloc _).alloc _).alloc _).alloc _).alloc _, ((((Blk.new1 w _ _ 300 _).alloc _).alloc _).alloc _).alloc _, ((blk_new3 w _ _ _ _ 24 _).alloc _).alloc _, ?_, ?_, by omega⟩, (((blk_new2 w _ _ _ 3 _).alloc _).alloc _).alloc _⟩
  · have h := blk_new3 (w.alloc (.cells (arrv 24 S) 23)) (.cells (arrv 300 P) 26) (.cells (arrv 3 T) 28) (.cells (arrv 24 (fun _ => 0)) 23) 26 300 (fun _ => 0)
    rw [e1] at h
    exact h.alloc _
  · have h := blk_new3 ((w.alloc (.cells (arrv 24 S) 23)).alloc (.cells (arrv 300 P) 26)) (.cells (arrv 3 T) 28) (.cells (arrv 24 (fun _ => 0)) 23) (.cells (arrv 300 (fun _ => 0)) 26) 42 11 (fun _ => 0)
    rw [e2] at h
    exact h
/-- What is told, laid behind. -/
theorem jp_told {c : Addr} {h : Bool} {z : Nat} {F P : Nat → Int} {w wr : World} (s : JpR c h z F P w wr) {B : Nat} {v : Value} {n : Nat} {D : Nat → Int} (o : Own wr B 2 v n D) (hB : z + 1 + 1 + 1 ≤ B) (T : Nat → Int) :
    JpR c h z F P w ((wr.alloc (.cells #[.int .i64 0, .int .i64 0, .int .i64 0, .int .i64 0, .int .i64 0, .int .i64 0, .int .i64 0, .int .i64 0, .int .i64 0, .int .i64 0, .int .i64 0] 42)).setRow wr.heap.size (arrv 11 T)) ∧ Own ((wr.alloc (.cells #[.int .i64 0, .int .i64 0, .int .i64 0, .int .i64 0, .int .i64 0, .int .i64 0, .int .i64 0, .int .i64 0, .int .i64 0, .int .i64 0, .int .i64 0] 42)).setRow wr.heap.size (arrv 11 T)) B 2 v n D ∧
    Blk ((wr.alloc (.cells #[.int .i64 0, .int .i64 0, .int .i64 0, .int .i64 0, .int .i64 0, .int .i64 0, .int .i64 0, .int .i64 0, .int .i64 0, .int .i64 0, .int .i64 0] 42)).setRow wr.heap.size (arrv 11 T)) wr.heap.size 42 11 T ∧ z + 1 + 1 < wr.heap.size := by
  have hz := s.r2.lt
  have b : Below wr.heap.size wr ((wr.alloc (.cells #[.int .i64 0, .int .i64 0, .int .i64 0, .int .i64 0, .int .i64 0, .int .i64 0, .int .i64 0, .int .i64 0, .int .i64 0, .int .i64 0, .int .i64 0] 42)).setRow wr.heap.size (arrv 11 T)) := below_row ((Below.refl _ _).alloc (Nat.le_refl _) _) (Nat.le_refl _) _
  refine ⟨s.down b, o.below b, ?_, hz⟩
  rw [ztd]
  exact (Blk.new _ _ _ _).setRow _
/-- What is told, changed. -/
theorem jp_set {c : Addr} {h : Bool} {z : Nat} {F P : Nat → Int} {w wr : World} (s : JpR c h z F P w wr) {tb : Nat} {T : Nat → Int} (t : Blk wr tb 42 11 T) (hb : z + 1 + 1 < tb) (U : Nat → Int) :
    JpR c h z F P w (wr.setRow tb (arrv 11 U)) ∧ Blk (wr.setRow tb (arrv 11 U)) tb 42 11 U ∧ z + 1 + 1 < tb := ⟨s.far hb _, t.setRow U, hb⟩
section
variable {c : Addr} {h : Bool} {z tb : Nat} {F P T : Nat → Int} {w wr w' : World}
theorem jp_down (s : JpR c h z F P w wr ∧ Blk wr tb 42 11 T ∧ z + 1 + 1 < tb) (u : Below wr.heap.size wr w') : JpR c h z F P w w' ∧ Blk w' tb 42 11 T ∧ z + 1 + 1 < tb := ⟨s.1.down u, s.2.1.below u, s.2.2⟩
theorem jp_drew (s : JpR c h z F P w wr ∧ Blk wr tb 42 11 T ∧ z + 1 + 1 < tb) : JpR c h z F P w wr.drew ∧ Blk wr.drew tb 42 11 T ∧ z + 1 + 1 < tb := jp_down s (Below.drew (Below.refl _ _))
theorem jp_upd {h' : Bool} (s : JpR c h z F P w wr ∧ Blk wr tb 42 11 T ∧ z + 1 + 1 < tb) (hc : c.block < w.heap.size) (u : Upd c h' wr w') : JpR c h' z F P w w' ∧ Blk w' tb 42 11 T ∧ z + 1 + 1 < tb := by
  have := s.1.lt
  have := s.2.2
  exact ⟨s.1.upd' hc u, s.2.1.upd u (by omega), s.2.2⟩
theorem jp_k0 (s : JpR c h z F P w wr) (t : Blk wr tb 42 11 T) (hb : z + 1 + 1 < tb) (G : Nat → Int) :
    Blk (wr.setRow z (arrv 24 G)) w.heap.size 23 24 F ∧ Blk (wr.setRow z (arrv 24 G)) (w.heap.size + 1) 26 300 P ∧ Blk (wr.setRow z (arrv 24 G)) tb 42 11 T := by
  have := s.lt
  exact ⟨s.s.setRow_other _ (by omega), s.p.setRow_other _ (by omega), t.setRow_other _ (by omega)⟩
theorem jp_k1 (s : JpR c h z F P w wr) (t : Blk wr tb 42 11 T) (hb : z + 1 + 1 < tb) (G Q : Nat → Int) :
    Blk ((wr.setRow z (arrv 24 G)).setRow (z + 1) (arrv 300 Q)) w.heap.size 23 24 F ∧ Blk ((wr.setRow z (arrv 24 G)).setRow (z + 1) (arrv 300 Q)) (w.heap.size + 1) 26 300 P ∧ Blk ((wr.setRow z (arrv 24 G)).setRow (z + 1) (arrv 300 Q)) tb 42 11 T := by
  have := s.lt
  have k := jp_k0 s t hb G
  exact ⟨k.1.setRow_other _ (by omega), k.2.1.setRow_other _ (by omega), k.2.2.setRow_other _ (by omega)⟩
/-- The three results, one behind the other. -/
theorem jp_all (s : JpR c h z F P w wr) (G Q U : Nat → Int) :
    Blk (wr.setRow z (arrv 24 G)) (z + 1) 26 300 (fun _ => 0) ∧ Blk ((wr.setRow z (arrv 24 G)).setRow (z + 1) (arrv 300 Q)) (z + 1 + 1) 42 11 (fun _ => 0) ∧
    Blk (((wr.setRow z (arrv 24 G)).setRow (z + 1) (arrv 300 Q)).setRow (z + 1 + 1) (arrv 11 U)) z 23 24 G ∧ Blk (((wr.setRow z (arrv 24 G)).setRow (z + 1) (arrv 300 Q)).setRow (z + 1 + 1) (arrv 11 U)) (z + 1) 26 300 Q ∧
    Blk (((wr.setRow z (arrv 24 G)).setRow (z + 1) (arrv 300 Q)).setRow (z + 1 + 1) (arrv 11 U)) (z + 1 + 1) 42 11 U ∧ Upd c h w (((wr.setRow z (arrv 24 G)).setRow (z + 1) (arrv 300 Q)).setRow (z + 1 + 1) (arrv 11 U)) := by
  have := s.lt
  have a1 : Blk (wr.setRow z (arrv 24 G)) (z + 1) 26 300 (fun _ => 0) := s.r1.setRow_other _ (by omega)
  have a2 : Blk ((wr.setRow z (arrv 24 G)).setRow (z + 1) (arrv 300 Q)) (z + 1 + 1) 42 11 (fun _ => 0) := (s.r2.setRow_other _ (by omega)).setRow_other _ (by omega)
  refine ⟨a1, a2, ((s.r0.setRow G).setRow_other _ (by omega)).setRow_other _ (by omega), (a1.setRow Q).setRow_other _ (by omega), a2.setRow U, ?_⟩
  exact ((s.upd.then' (below_row (Below.refl _ _) (by omega) _)).then' (below_row (Below.refl _ _) (by omega) _)).then' (below_row (Below.refl _ _) (by omega) _)
end
end Go.Proofs.YtgfklheepkgedaaGreat
/- Contracts of package rot (2): Of. -/
namespace Go.Proofs.YtgfklheepkgedaaGreat
open Go.RowKit
set_option maxRecDepth 100000
end Go.Proofs.YtgfklheepkgedaaGreat
/- Contracts of package rot (3): Apply. -/
namespace Go.Proofs.YtgfklheepkgedaaGreat
open Go.RowKit
set_option maxRecDepth 100000
end Go.Proofs.YtgfklheepkgedaaGreat
/- The rotations of a vector and of a heading, as the program's numbers. No program. -/
namespace Go.Proofs.YtgfklheepkgedaaGreat
def fyM (a : Int) : Int := mulV (wrpV a) 536870912 30
def fyV (a : Int) : Nat → Int := uniV (q4 (cosV (fyM a)) 0 0 (sinV (fyM a)))
def fyH (a : Int) : Bool := mulH (wrpV a) 536870912 30 || cosH (fyM a) || sinH (fyM a) || uniH (q4 (cosV (fyM a)) 0 0 (sinV (fyM a)))
end Go.Proofs.YtgfklheepkgedaaGreat
/- Contracts of package rot (4): Exp. -/
namespace Go.Proofs.YtgfklheepkgedaaGreat
open Go.RowKit
set_option maxRecDepth 100000
open Go in
theorem run_build_q4' {o : Oper} {ev : Operand → Value} {w : World} (x u : Operand) (ho : o.op = .build 38 #[(0, x), (3, u)]) {a d : Int} (hx : ev x = .int .i64 a) (hu : ev u = .int .i64 d) :
    (execOp ev o).run Tryz.prog w = .ok (.value (.agg (arrv 4 (q4 a 0 0 d)))) w := by
  unfold execOp
  simp only [ho, List.map_toArray, List.map_cons, List.map_nil, hx, hu]
  kernel_rfl
end Go.Proofs.YtgfklheepkgedaaGreat
/- Contracts of package rot (5): FromYaw. -/
namespace Go.Proofs.YtgfklheepkgedaaGreat
open Go.RowKit
set_option maxRecDepth 100000
/-- The blocks of rot.FromYaw. -/
structure FyR (c : Addr) (h : Bool) (w wr : World) : Prop where
  upd : Upd c h w wr
  r : Blk wr w.heap.size 38 4 (fun _ => 0)
  cell : wr.cell? c = some (.bool h)
  free : wr.frozen? c = false
  cb : c.block < w.heap.size
theorem FyR.upd' {c : Addr} {h h' : Bool} {w wr w' : World} (s : FyR c h w wr) (u : Upd c h' wr w') : FyR c h' w w' := by
  have hcb := s.cb
  exact ⟨s.upd.trans u, s.r.upd u (by omega), u.cellc s.cell, (u.frozen (World.block_lt_of_cell? _ _ s.cell)).trans s.free, s.cb⟩
theorem fy_start (c : Addr) (h : Bool) (w : World) (hc : w.cell? c = some (.bool h)) (hf : w.frozen? c = false) :
    FyR c h w (w.alloc (.cells #[.int .i64 0, .int .i64 0, .int .i64 0, .int .i64 0] 38)) := by
  have hcb := World.block_lt_of_cell? w c hc
  have bl : Below w.heap.size w (w.alloc (.cells #[.int .i64 0, .int .i64 0, .int .i64 0, .int .i64 0] 38)) := by (repeat (first | with_reducible exact Below.refl _ _ | with_reducible apply Below.drew | (with_reducible refine below_drewN ?_ _) | (with_reducible refine Below.alloc ?_ (by (try simp) <;> omega) _) | (with_reducible refine Below.setCell ?_ (by (try simp) <;> omega) _)))
  refine ⟨Upd.then (Upd.refl hc) bl, ?_, (bl.cell hcb).trans hc, (bl.frozen hcb).trans hf, hcb⟩
  rw [zq4]; exact Blk.new w _ 4 _
set_option maxHeartbeats 8000000 in
theorem fromyaw_any (c : Addr) (h : Bool) (a : Int) (w : World) (hc : w.cell? c = some (.bool h)) (hf : w.frozen? c = false) :
    Calls Tryz.prog 21 #[.pointer (some c), .int .i64 a] w fun e w' => e = .returned (.agg (arrv 4 (fyV a))) ∧ Upd c (h || fyH a) w w' := by
  have S0 := Lib.hid (fy_start c h w hc hf)
  have WC := fun (x : World) => wrap_any a x
  have MC := fun (x : World) (k : x.cell? c = some (.bool h)) (f : x.frozen? c = false) => fmul_any c h (wrpV a) 536870912 30 x k f
  have HV : fyV a = uniV (q4 (cosV (fyM a)) 0 0 (sinV (fyM a))) ∧ (h || fyH a) = (h || mulH (wrpV a) 536870912 30 || cosH (fyM a) || sinH (fyM a) || uniH (q4 (cosV (fyM a)) 0 0 (sinV (fyM a)))) := ⟨rfl, by unfold fyH; simp [Bool.or_assoc]⟩
  rw [show mulV (wrpV a) 536870912 30 = fyM a from rfl] at MC
  obtain ⟨W, hW⟩ : ∃ x, wrpV a = x := ⟨_, rfl⟩
  obtain ⟨M, hM⟩ : ∃ x, fyM a = x := ⟨_, rfl⟩
  rw [hW] at WC MC HV
  rw [hM] at MC HV
  obtain ⟨H1, hH1⟩ : ∃ x, (h || mulH W 536870912 30) = x := ⟨_, rfl⟩
  rw [hH1] at MC HV
  have CC := fun (x : World) (k : x.cell? c = some (.bool H1)) (f : x.frozen? c = false) => cos_any c H1 M x k f
  obtain ⟨C, hC⟩ : ∃ x, cosV M = x := ⟨_, rfl⟩
  obtain ⟨H2, hH2⟩ : ∃ x, (H1 || cosH M) = x := ⟨_, rfl⟩
  rw [hC, hH2] at CC
  rw [hC, hH2] at HV
  have NN := fun (x : World) (k : x.cell? c = some (.bool H2)) (f : x.frozen? c = false) => sin_any c H2 M x k f
  obtain ⟨S, hS⟩ : ∃ x, sinV M = x := ⟨_, rfl⟩
  obtain ⟨H3, hH3⟩ : ∃ x, (H2 || sinH M) = x := ⟨_, rfl⟩
  rw [hS, hH3] at NN
  rw [hS, hH3] at HV
  have UC := fun (x : World) (k : x.cell? c = some (.bool H3)) (f : x.frozen? c = false) => qunit_any c H3 (q4 C 0 0 S) x k f
  obtain ⟨E, hE⟩ : ∃ x, uniV (q4 C 0 0 S) = x := ⟨_, rfl⟩
  rw [hE] at UC HV
  have WC := Lib.hid WC
  have MC := Lib.hid MC
  have CC := Lib.hid CC
  have NN := Lib.hid NN
  have UC := Lib.hid UC
  have HV := Lib.hid HV
  clear hW hM hH1 hC hH2 hS hH3 hE hc hf
  go_enter Tryz.func21, Tryz.ntmps21
  go_upto_region 1 with fail
  generalize w.alloc (.cells #[.int .i64 0, .int .i64 0, .int .i64 0, .int .i64 0] 38) = W0 at *
  go_upto_region 2 with (first | (go_at_call 44; (refine (WC.out _).mono ?_); rintro e w1 ⟨rfl, rfl⟩) | (go_at_call 43; (refine (MC.out _ S0.out.cell S0.out.free).mono ?_); rintro e w2 ⟨rfl, hu⟩; have S1 := Lib.hid (S0.out.upd' hu); clear hu S0))
  refine wp_region_lit ?_
  refine wpList_val (v := ?_) rfl ?_ ?_
  rotate_left
  · (go_simp; (try (first | with_reducible rfl | (constructor <;> with_reducible rfl))))
  (try simp only [Act.put, nA, nB, nC])
  refine wpList_val (v := ?_) rfl ?_ ?_
  rotate_left
  · (go_simp; (try (first | with_reducible rfl | (constructor <;> with_reducible rfl))))
  (try simp only [Act.put, nA, nB, nC])
  refine wpList_val (v := ?_) rfl ?_ ?_
  rotate_left
  · (go_simp; (try (first | with_reducible rfl | (constructor <;> with_reducible rfl))))
  (try simp only [Act.put, nA, nB, nC])
  refine wpList_step (fun K hK => ?_)
  go_simp
  (refine (CC.out _ S1.out.cell S1.out.free).mono ?_); rintro e w3 ⟨rfl, hu⟩; have S2 := Lib.hid (S1.out.upd' hu); clear hu S1
  (try dsimp only)
  (try simp only [Act.put, nA, nB, nC])
  refine hK _ _ ?_
  clear hK K
  refine wpList_val (v := ?_) rfl ?_ ?_
  rotate_left
  · (go_simp; (try (first | with_reducible rfl | (constructor <;> with_reducible rfl))))
  (try simp only [Act.put, nA, nB, nC])
  refine wpList_val (v := ?_) rfl ?_ ?_
  rotate_left
  · (go_simp; (try (first | with_reducible rfl | (constructor <;> with_reducible rfl))))
  (try simp only [Act.put, nA, nB, nC])
  refine wpList_step (fun K hK => ?_)
  go_simp
  (refine (NN.out _ S2.out.cell S2.out.free).mono ?_); rintro e w4 ⟨rfl, hu⟩; have S3 := Lib.hid (S2.out.upd' hu); clear hu S2
  (try dsimp only)
  (try simp only [Act.put, nA, nB, nC])
  refine hK _ _ ?_
  clear hK K
  refine wpList_val (v := ?_) rfl ?_ ?_
  rotate_left
  · (refine Eq.trans (run_build_q4' (.tmp 13) (.tmp 16) (by rfl) (by rfl) (by rfl)) ?_; with_reducible rfl)
  (try simp only [Act.put, nA, nB, nC])
  refine wpList_step (fun K hK => ?_)
  go_simp
  (refine (UC.out _ S3.out.cell S3.out.free).mono ?_); rintro e w5 ⟨rfl, hu⟩; have S4 := Lib.hid (S3.out.upd' hu); clear hu S3
  (try dsimp only)
  (try simp only [Act.put, nA, nB, nC])
  refine hK _ _ ?_
  clear hK K
  refine wpList_done (w' := ?_) rfl ?_ ?_
  rotate_left
  · (refine Eq.trans (run_store_row 38 (.tmp 4) (.tmp 18) (by rfl) w.heap.size (by rfl) (by rfl) S4.out.r (iqt.trans rfl)) ?_; with_reducible rfl)
  (try simp only [Act.put, nA, nB, nC])
  refine wpList_nil ?_
  have r1 := S4.out.r.setRow E
  have B1 := S4.out.upd.then' (below_row (Below.refl _ _) (Nat.le_refl w.heap.size) (arrv 4 E))
  rw [← HV.out.2] at B1
  generalize w5.setRow w.heap.size (arrv 4 E) = W6 at *
  go_wp2_with fail
  refine bodyPost_ret (results_cell_row Tryz.results21 _ _ w.heap.size 38 (arrv 4 E) (0, 0) _ rfl r1 Tryz.underlying38 rfl (iqt.trans (by rw [arrv_size]))) rfl ⟨by rw [HV.out.1], B1⟩
end Go.Proofs.YtgfklheepkgedaaGreat
