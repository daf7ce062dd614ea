/- Contracts of the program's functions and plain laws, part 19: they hold for all arguments. -/
import Derived.Test.YtokcdlcmamdloaaQ18
import Derived.Test.YtokcdlcmamdloaaQ07
import Derived.ChangeKeysEq
import Derived.Laws.StructEq
import Derived.Test.YtokcdlcmamdloaaQ15
import Derived.Test.YtokcdlcmamdloaaQ14
import Derived.Test.YtokcdlcmamdloaaQ10
import Derived.Test.YtokcdlcmamdloaaProg
import Derived.Deep.Upon
import Derived.OpenShut
import Derived.ProofKit
import Derived.Carry
/- Update's two rows, made and filled; a row's number. -/
namespace Go.Proofs.Ytokcdlcmamdloaa
open Go.RowKit
set_option maxRecDepth 100000
theorem two_made {w3 w4 : World} (F G : Nat → Int) (e : w4 = ((((w3.alloc (.cells Try.zeroCells25 25)).alloc (.cells #[.int .i64 0, .int .i64 0, .int .i64 0, .int .i64 0, .int .i64 0, .int .i64 0, .int .i64 0, .int .i64 0, .int .i64 0, .int .i64 0, .int .i64 0, .int .i64 0, .int .i64 0, .int .i64 0, .int .i64 0, .int .i64 0, .int .i64 0, .int .i64 0, .int .i64 0, .int .i64 0, .int .i64 0, .int .i64 0, .int .i64 0, .int .i64 0] 40)).setRow w3.heap.size (arrv 300 F)).setRow (w3.heap.size + 1) (arrv 24 G))) :
    Blk w4 w3.heap.size 25 300 F ∧ Blk w4 (w3.heap.size + 1) 40 24 G ∧ Below w3.heap.size w3 w4 := by
  subst e
  rw [zcov, zrow]
  refine ⟨?_, ?_, ?_⟩
  · exact ((((Blk.new w3 _ _ _).alloc _).setRow F).setRow_other _ (by omega))
  · exact (((Blk.new1 w3 _ _ _ _).setRow_other _ (by omega)).setRow G)
  · exact below_row (below_row (((Below.refl _ _).alloc (Nat.le_refl _) _).alloc (by simp) _) (Nat.le_refl _) _) (by omega) _
open Go in
/-- A row's number. -/
theorem run_index_row {o : Oper} {ev : Operand → Value} {w : World} {f : Nat → Int} (x y : Operand) (ho : o.op = .index 40 x y) (hx : ev x = .agg (arrv 24 f)) (k : Nat)
    (hy : ev y = .int .i64 (k : Int)) (hk : k < 24) : (execOp ev o).run Try.prog w = .ok (.value (.int .i64 (f k))) w := by
  have e2 : (arrv 24 f)[k]? = some (.int .i64 (f k)) := arrv_get hk
  unfold execOp
  simp only [ho, hx, hy, Sem.run_bind]
  have := Try.underlying40
  simp [Instr.index, run_underlying this, asIntOf, hk, go_sem, part, e2]
end Go.Proofs.Ytokcdlcmamdloaa
/- The equality of two arrays of int64, as numbers. -/
namespace Go.Proofs.Ytokcdlcmamdloaa
open Go
set_option maxRecDepth 100000
theorem plain_int {P : Program} {e : TypeId} (h : P.underlying e = some (.int .i64)) : P.plainKey e = true := by simp [Program.plainKey, h]
theorem run_eqItems_int {P : Program} {w : World} (d : Nat) {e : TypeId} (h : P.underlying e = some (.int .i64)) (n : Nat) (f g : Nat → Int) : ∀ (is : List Nat), (∀ i ∈ is, i < n) →
    (Op.eqItems (d + 1) e 1 (arrv n f) (arrv n g) is).run P w = .ok (is.all fun i => f i == g i) w
  | [], _ => by simp [Op.eqItems]
  | i :: is, hi => by
    have hin := hi i (by simp)
    simp only [Op.eqItems, Sem.run_bind, Nat.mul_one, run_part_plain w (plain_int h) (arrv_get (f := f) hin), run_part_plain w (plain_int h) (arrv_get (f := g) hin), Result.andThen_ok, run_equalIn_int w d e .i64 .i64 _ _ h]
    by_cases e1 : f i = g i
    · simp only [e1, beq_self_eq_true, Bool.not_true, Bool.false_eq_true, if_false, List.all_cons, Bool.true_and]
      exact run_eqItems_int d h n f g is fun j hj => hi j (by simp [hj])
    · have : (f i == g i) = false := by simpa using e1
      simp [this]
def eqB (n : Nat) (f g : Nat → Int) : Bool := (List.range n).all fun i => f i == g i
theorem eqB_iff {n : Nat} {f g : Nat → Int} : eqB n f g = true ↔ ∀ i, i < n → f i = g i := by simp [eqB]
theorem run_equalIn_vec {P : Program} {w : World} (d : Nat) {t e : TypeId} {n : Nat} (hu : P.underlying t = some (.array n e)) (h : P.underlying e = some (.int .i64)) (hi : P.cellsOf e = 1) {i : TypeInfo} (hi2 : P.info? e = some i) (f g : Nat → Int) :
    (Op.equalIn (d + 2) t (.agg (arrv n f)) (.agg (arrv n g))).run P w = .ok (eqB n f g) w := by
  rw [show d + 2 = (d + 1) + 1 from rfl, run_equalIn_array w (d + 1) _ _ hu hi2, hi]
  exact run_eqItems_int d h n f g _ fun i hi => by simpa using hi
theorem arrv_extract (n a b : Nat) (f : Nat → Int) (h : a + b ≤ n) : (arrv n f).extract a (a + b) = arrv b fun i => f (a + i) := by
  apply Array.ext_getElem?
  intro i
  by_cases hi : i < b
  · rw [arrv_get hi, Array.getElem?_extract, if_pos (by rw [arrv_size]; omega), arrv_get (by omega)]
  · rw [Array.getElem?_eq_none (xs := arrv b _) (by rw [arrv_size]; omega), Array.getElem?_eq_none (by simp [arrv_size]; omega)]
open Go in
/-- '==' of two arrays of int64, at the operation. -/
theorem run_op_eqlVec {n : Nat} {T : TypeId} (hT : Try.prog.underlying T = some (.array n 2)) (hG : Try.prog.eqGuardType Try.prog.depth T = false) {o : Oper} {ev : Operand → Value} {w : World} (x y : Operand) (ho : o.op = .binOp .eql T x y T) {f g : Nat → Int} (hx : ev x = .agg (arrv n f)) (hy : ev y = .agg (arrv n g)) {b : Bool} (hb : eqB n f g = b) :
    (execOp ev o).run Try.prog w = .ok (.value (.bool b)) w := by
  have h : (Try.prog.info? 2).map (·.size) = some 1 := by kernel_rfl
  obtain ⟨i, h2, s2⟩ : ∃ i, Try.prog.info? 2 = some i ∧ i.size = 1 := by
    cases e : Try.prog.info? 2 with
    | none => rw [e] at h; cases h
    | some i => rw [e] at h; exact ⟨i, rfl, by simpa using h⟩
  have e : (Op.equal T (.agg (arrv n f)) (.agg (arrv n g))).run Try.prog w = .ok (eqB n f g) w :=
    run_equalIn_vec (w := w) 9998 hT Try.underlying2 (by simp [Program.cellsOf, h2, s2]) h2 _ _
  unfold execOp
  simp only [ho, hx, hy, eqGuard, binOp, Sem.run_bind, Sem.run_pure, Result.andThen_ok]
  simp [hG, e, hb, go_sem]
end Go.Proofs.Ytokcdlcmamdloaa
/- The equality of two covariances, as numbers. -/
namespace Go.Proofs.Ytokcdlcmamdloaa
open Go
set_option maxRecDepth 100000
def covB (f g : Nat → Int) : Bool := eqB 276 f g && eqB 24 (fun i => f (276 + i)) (fun i => g (276 + i))
theorem covB_iff {f g : Nat → Int} : covB f g = true ↔ ∀ i, i < 300 → f i = g i := by
  unfold covB
  rw [Bool.and_eq_true, eqB_iff, eqB_iff]
  constructor
  · rintro ⟨h1, h2⟩ i hi
    by_cases h : i < 276
    · exact h1 i h
    · have := h2 (i - 276) (by omega); rwa [show 276 + (i - 276) = i by omega] at this
  · intro h
    exact ⟨fun i hi => h i (by omega), fun i hi => h _ (by omega)⟩
theorem run_part_vec {P : Program} {w : World} {t e : TypeId} {n m : Nat} {i : TypeInfo} (hu : P.underlying t = some (.array n e)) (hi : P.info? t = some i) (hn : i.size = n) (a : Nat) (f : Nat → Int) (h : a + n ≤ m) :
    (part t (arrv m f) a).run P w = .ok (.agg (arrv n fun i => f (a + i))) w := by
  have hagg : (isAgg t).run P w = .ok true w := by
    unfold isAgg
    rw [Sem.run_bind, run_underlying hu w]
    rfl
  have hs : P.cellsOf t = n := by simp [Program.cellsOf, hi, hn]
  unfold part
  simp only [Sem.run_bind, hagg, Result.andThen_ok, if_true, run_sizeOf w hi, hs, Sem.run_pure]
  rw [arrv_extract m a n f h]
theorem run_eqFields_cons {P : Program} {w : World} {d : Nat} {xs ys : Array Value} {f : Field} {fs : List Field} {a b : Value} {r r' : Bool} (hn : f.name ≠ "_") (ha : (part f.type xs f.offset).run P w = .ok a w)
    (hb : (part f.type ys f.offset).run P w = .ok b w) (hr : (Op.equalIn d f.type a b).run P w = .ok r w) (h : (Op.eqFields d xs ys fs).run P w = .ok r' w) : (Op.eqFields d xs ys (f :: fs)).run P w = .ok (r && r') w := by
  simp only [Op.eqFields, if_pos hn, Sem.run_bind, ha, hb, hr, Result.andThen_ok]
  cases r
  · simp
  · simp [h]
theorem fieldsOf_of {P : Program} {t : TypeId} {fs : Array Field} (h : P.underlying t = some (.struct fs)) : P.fieldsOf t = fs := by simp [Program.fieldsOf, h]
theorem run_equalIn_cov (d : Nat) (w : World) (f g : Nat → Int) : (Op.equalIn (d + 3) 25 (.agg (arrv 300 f)) (.agg (arrv 300 g))).run Try.prog w = .ok (covB f g) w := by
  have hf := fieldsOf_of Try.underlying25
  rw [show d + 3 = (d + 2) + 1 from rfl, run_equalIn_struct w (d + 2) _ _ _ (by rw [hf]; exact Try.underlying25) (by kernel_rfl), hf]
  have hi22 : ∃ i, Try.prog.info? 22 = some i ∧ i.size = 276 := by
    have h : (Try.prog.info? 22).map (·.size) = some 276 := by kernel_rfl
    cases e : Try.prog.info? 22 with
    | none => rw [e] at h; cases h
    | some i => rw [e] at h; exact ⟨i, rfl, by simpa using h⟩
  have hi23 : ∃ i, Try.prog.info? 23 = some i ∧ i.size = 24 := by
    have h : (Try.prog.info? 23).map (·.size) = some 24 := by kernel_rfl
    cases e : Try.prog.info? 23 with
    | none => rw [e] at h; cases h
    | some i => rw [e] at h; exact ⟨i, rfl, by simpa using h⟩
  have hi2 : ∃ i, Try.prog.info? 2 = some i ∧ i.size = 1 := by
    have h : (Try.prog.info? 2).map (·.size) = some 1 := by kernel_rfl
    cases e : Try.prog.info? 2 with
    | none => rw [e] at h; cases h
    | some i => rw [e] at h; exact ⟨i, rfl, by simpa using h⟩
  obtain ⟨i22, h22, s22⟩ := hi22
  obtain ⟨i23, h23, s23⟩ := hi23
  obtain ⟨i2, h2, s2⟩ := hi2
  have hc : Try.prog.cellsOf 2 = 1 := by simp [Program.cellsOf, h2, s2]
  have p0 := fun f => run_part_vec (w := w) (m := 300) Try.underlying22 h22 s22 0 f (by omega)
  have p1 := fun f => run_part_vec (w := w) (m := 300) Try.underlying23 h23 s23 276 f (by omega)
  have q0 := fun f g => run_equalIn_vec (w := w) d Try.underlying22 Try.underlying2 hc h2 f g
  have q1 := fun f g => run_equalIn_vec (w := w) d Try.underlying23 Try.underlying2 hc h2 f g
  have z : (Op.eqFields (d + 2) (arrv 300 f) (arrv 300 g) []).run Try.prog w = .ok true w := by simp [Op.eqFields]
  have e1 := run_eqFields_cons (f := ⟨"D", 23, 276, false, "", "", 2208⟩) (by decide) (p1 f) (p1 g) (q1 _ _) z
  have e0 := run_eqFields_cons (f := ⟨"U", 22, 0, false, "", "", 0⟩) (by decide) (p0 f) (p0 g) (q0 _ _) e1
  refine Eq.trans e0 ?_
  simp [covB]
theorem run_equal_cov (w : World) (f g : Nat → Int) : (Op.equal 25 (.agg (arrv 300 f)) (.agg (arrv 300 g))).run Try.prog w = .ok (covB f g) w := run_equalIn_cov 9997 w f g
/-- The same in the shape that the walk leaves. -/
theorem run_eq_U (w : World) (f g : Nat → Int) : (Op.equalIn 9999 22 (.agg ((arrv 300 f).extract 0 276)) (.agg ((arrv 300 g).extract 0 276))).run Try.prog w = .ok (eqB 276 f g) w := by
  have h : (Try.prog.info? 2).map (·.size) = some 1 := by kernel_rfl
  obtain ⟨i, h2, s2⟩ : ∃ i, Try.prog.info? 2 = some i ∧ i.size = 1 := by
    cases e : Try.prog.info? 2 with
    | none => rw [e] at h; cases h
    | some i => rw [e] at h; exact ⟨i, rfl, by simpa using h⟩
  have e0 := fun f => arrv_extract 300 0 276 f (by omega)
  rw [e0 f, e0 g]
  refine (run_equalIn_vec (w := w) 9997 Try.underlying22 Try.underlying2 (by simp [Program.cellsOf, h2, s2]) h2 _ _).trans ?_
  simp
theorem run_eq_D (w : World) (f g : Nat → Int) : (Op.equalIn 9999 23 (.agg ((arrv 300 f).extract 276 300)) (.agg ((arrv 300 g).extract 276 300))).run Try.prog w = .ok (eqB 24 (fun i => f (276 + i)) (fun i => g (276 + i))) w := by
  have h : (Try.prog.info? 2).map (·.size) = some 1 := by kernel_rfl
  obtain ⟨i, h2, s2⟩ : ∃ i, Try.prog.info? 2 = some i ∧ i.size = 1 := by
    cases e : Try.prog.info? 2 with
    | none => rw [e] at h; cases h
    | some i => rw [e] at h; exact ⟨i, rfl, by simpa using h⟩
  have e0 := fun f => arrv_extract 300 276 24 f (by omega)
  rw [e0 f, e0 g]
  exact run_equalIn_vec (w := w) 9997 Try.underlying23 Try.underlying2 (by simp [Program.cellsOf, h2, s2]) h2 _ _
theorem covB_self (f : Nat → Int) : covB f f = true := covB_iff.2 fun _ _ => rfl
open Go in
/-- '==' of two covariances, at the operation. -/
theorem run_op_eqlCov {o : Oper} {ev : Operand → Value} {w : World} (x y : Operand) (ho : o.op = .binOp .eql 25 x y 25) {f g : Nat → Int} (hx : ev x = .agg (arrv 300 f)) (hy : ev y = .agg (arrv 300 g)) {b : Bool} (hb : covB f g = b) :
    (execOp ev o).run Try.prog w = .ok (.value (.bool b)) w := by
  have e := run_equal_cov w f g
  have hG : Try.prog.eqGuardType Try.prog.depth 25 = false := by kernel_rfl
  unfold execOp
  simp only [ho, hx, hy, eqGuard, binOp, Sem.run_bind, Sem.run_pure, Result.andThen_ok]
  simp [hG, e, hb, go_sem]
end Go.Proofs.Ytokcdlcmamdloaa
/- Law 11's awake answers true. -/
namespace Go.Proofs.Ytokcdlcmamdloaa
open Go.RowKit
set_option maxRecDepth 100000
def awR : Nat → Int := fun _ => 17592186044416
def awP : Nat → Int := newF 1 awR
theorem awP_diag : DiagF awP := by
  constructor
  · intro x hx; unfold awP newF; rw [if_pos hx]
  · intro i hi
    unfold awP newF
    rw [if_neg (by omega), show 276 + i - 276 = i by omega]
    by_cases h : i < 1
    · rw [if_pos h]; simp only [awR]; decide
    · rw [if_neg h]; decide
theorem awP_0 : awP 276 = 17592186044416 := by decide
theorem newH_awR : newH 1 awR = false := by decide
theorem pkS_0 : pkS (fun _ => 0) 1 = pkF 0 := by
  funext i; unfold pkS pkF; rw [if_pos (by decide)]; unfold pkS Go.Proofs.Ytokcdlcmamdloaa.upd; rfl
def awG : Nat → Int := updG awP (pkF 0) 17592186044416
theorem aw11 : updP awP (pkF 0) 17592186044416 276 = 8796093022208 ∧ awG 0 = 536870912 ∧ updS awP (pkF 0) 17592186044416 = 35184372088832 ∧ updH awP (pkF 0) 17592186044416 = false ∧
    updS awP (pkF 0) 5 = 17592186044421 ∧ lkH awP (pkF 0) 5 = false ∧ (∀ i, i < 24 → awG i = if i = 0 then 536870912 else 0) := by
  have e0 : awP (276 + 0) = 17592186044416 := awP_0
  obtain ⟨_, h2, h3, h4, _, h6⟩ := upd_one awP_diag (k := 0) (by omega) (r := 17592186044416) (by omega) (by rw [e0]; omega)
  obtain ⟨_, _, _, g4, g5, _⟩ := upd_one awP_diag (k := 0) (by omega) (r := 5) (by omega) (by rw [e0]; omega)
  rw [e0] at h2 h3 h4 g4
  have hG : ∀ i, i < 24 → awG i = if i = 0 then 536870912 else 0 := fun i hi => by
    unfold awG; rw [h3 i hi]; split
    · decide
    · rfl
  refine ⟨?_, hG 0 (by omega), h4, h6 (by omega), g4, g5, hG⟩
  have := h2 0 (by omega)
  rw [if_pos rfl] at this
  exact this.trans (by decide)
theorem aw_gain : gnF awG 4 24 0 = 2 ∧ orB (gnB awG 4) 24 = false := by
  refine ⟨?_, orB_no fun i hi => ?_⟩
  · unfold gnF; rw [if_pos (by omega), aw11.2.1]; decide
  · unfold gnB; rw [aw11.2.2.2.2.2.2 i hi]; split <;> decide
def awL3 : Nat → Int := fun i => if i = 0 then 1 else if i = 1 then 3 else 99
set_option maxHeartbeats 4000000 in
theorem awake_any (w : World) : Calls Try.prog 9 #[] w fun e w' => e = .returned (.bool true) ∧ Below w.heap.size w w' := by
  obtain ⟨n1, n2, n3, n4, n5, n6, n7⟩ := aw11
  go_enter Try.func9, Try.ntmps9
  obtain ⟨W0, hW0⟩ : ∃ x, (w.alloc (.cells #[.bool false] 31)).alloc (.cells #[.int .i64 17592186044416] 2) = x := ⟨_, rfl⟩
  have F0 : Flg W0 w.heap.size false := by rw [← hW0]; exact (Flg.new w false).alloc _
  have B0 : Below w.heap.size w W0 := by rw [← hW0]; exact ((Below.refl _ _).alloc (Nat.le_refl _) _).alloc (by simp) _
  have L0 : Slc W0 (some ⟨w.heap.size + 1, 0, none⟩) 1 awR := by
    rw [← hW0]
    intro i hi
    obtain rfl : i = 0 := by omega
    exact ⟨_, _, rfl, by simp [go_sem, awR]⟩
  have N0 := Lib.hid (new_any _ false _ _ 1 awR W0 F0.cell F0.free L0)
  go_upto_region 3 with (first | (go_at_call 25; (refine N0.out.mono ?_); rintro e w1 ⟨rfl, hu1⟩; (rw [newH_awR] at hu1); replace hu1 : Upd ⟨w.heap.size, 0, none⟩ false W0 w1 := hu1; have F1 := Lib.hid (F0.hit hu1); have B1 := Lib.hid (own_upd B0 (Nat.le_refl _) hu1); clear hu1) | (go_at_call 16; have L1 : Slc (w1.alloc (.cells #[.int .i64 0] 3)) (some ⟨w1.heap.size, 0, none⟩) 1 (fun _ => 0) := (by intro i hi; obtain rfl : i = 0 := (by omega); exact ⟨_, _, rfl, by simp [go_sem]⟩); (refine (pick_any _ 1 _ (fun _ => 0) _ L1 (by omega)).mono ?_); rintro e w2 ⟨rfl, hb2⟩; have F2 := Lib.hid ((F1.out.alloc _).below hb2); have B2 := Lib.hid (Below.after (B1.out.alloc B1.out.size _) hb2); clear hb2 L1) | (go_at_call 10; (rw [pkS_0, show newF 1 awR = awP from rfl]); (refine (update_any _ false awP (pkF 0) 17592186044416 w2 F2.out.cell F2.out.free).mono ?_); rintro e w3 ⟨rfl, hu3⟩; (rw [n3, show updG awP (pkF 0) 17592186044416 = awG from rfl]); (rw [n4] at hu3); replace hu3 : Upd ⟨w.heap.size, 0, none⟩ false w2 w3 := hu3; have F3 := Lib.hid (F2.out.hit hu3); have B3 := Lib.hid (own_upd B2.out (Nat.le_refl _) hu3); have R3 : Blk ((w3.alloc (.cells Try.zeroCells25 25)).alloc (.cells #[.int .i64 0, .int .i64 0, .int .i64 0, .int .i64 0, .int .i64 0, .int .i64 0, .int .i64 0, .int .i64 0, .int .i64 0, .int .i64 0, .int .i64 0, .int .i64 0, .int .i64 0, .int .i64 0, .int .i64 0, .int .i64 0, .int .i64 0, .int .i64 0, .int .i64 0, .int .i64 0, .int .i64 0, .int .i64 0, .int .i64 0, .int .i64 0] 40)) w3.heap.size 25 300 (fun _ => 0) := (by rw [zcov]; exact (Blk.new _ _ _ _).alloc _); have R4 : Blk (((w3.alloc (.cells Try.zeroCells25 25)).alloc (.cells #[.int .i64 0, .int .i64 0, .int .i64 0, .int .i64 0, .int .i64 0, .int .i64 0, .int .i64 0, .int .i64 0, .int .i64 0, .int .i64 0, .int .i64 0, .int .i64 0, .int .i64 0, .int .i64 0, .int .i64 0, .int .i64 0, .int .i64 0, .int .i64 0, .int .i64 0, .int .i64 0, .int .i64 0, .int .i64 0, .int .i64 0, .int .i64 0] 40)).setRow w3.heap.size (arrv 300 (updP awP (pkF 0) 17592186044416))) (w3.heap.size + 1) 40 24 (fun _ => 0) := (by rw [zrow]; exact (Blk.new1 _ _ _ _ _).setRow_other _ (by omega)); clear hu3) | (refine wpList_store_row rfl 25 _ _ rfl w3.heap.size _ rfl rfl 25 _ R3 (icov.trans (by rw [arrv_size])) (by rw [arrv_size, arrv_size]) (oneCell_arrv _ _) ?_) | (refine wpList_store_row rfl 40 _ _ rfl (w3.heap.size + 1) _ rfl rfl 40 _ R4 (irow.trans (by rw [arrv_size])) (by rw [arrv_size, arrv_size]) (oneCell_arrv _ _) ?_))
  obtain ⟨w4, hw4⟩ : ∃ x, x = ((((w3.alloc (.cells Try.zeroCells25 25)).alloc (.cells #[.int .i64 0, .int .i64 0, .int .i64 0, .int .i64 0, .int .i64 0, .int .i64 0, .int .i64 0, .int .i64 0, .int .i64 0, .int .i64 0, .int .i64 0, .int .i64 0, .int .i64 0, .int .i64 0, .int .i64 0, .int .i64 0, .int .i64 0, .int .i64 0, .int .i64 0, .int .i64 0, .int .i64 0, .int .i64 0, .int .i64 0, .int .i64 0] 40)).setRow w3.heap.size (arrv 300 (updP awP (pkF 0) 17592186044416))).setRow (w3.heap.size + 1) (arrv 24 awG)) := ⟨_, rfl⟩
  rw [← hw4]
  obtain ⟨M0, M1, MB⟩ := two_made _ _ hw4
  have F4 := Lib.hid (F3.out.below MB)
  have B4 := Lib.hid (Below.after B3.out MB)
  have c0 := M0.cell (i := 276) (by omega)
  have c1 := M1.cell (i := 0) (by omega)
  rw [n1] at c0
  rw [n2] at c1
  have G4 := Lib.hid M1
  have N4 := Lib.hid n4
  have N5 := Lib.hid n5
  have N6 := Lib.hid n6
  have hz : w.heap.size < w3.heap.size := F3.out.lt
  clear hw4 R3 R4 F0 B0 L0 N0 F1 B1 F2 B2 F3 B3 M0 M1 MB n3 n4 n5 n6 n7 hW0
  refine wp_region_lit ?_
  refine wpList_val (v := ?_) rfl ?_ ?_
  rotate_left
  · (go_simp; (try (first | with_reducible rfl | (constructor <;> with_reducible rfl))))
  (try simp only [Act.put, List.setIfInBounds_toArray, List.set_cons_zero, List.set_cons_succ])
  refine wpList_val (v := ?_) rfl ?_ ?_
  rotate_left
  · (go_simp; (try (first | with_reducible rfl | (constructor <;> with_reducible rfl))))
  (try simp only [Act.put, List.setIfInBounds_toArray, List.set_cons_zero, List.set_cons_succ])
  refine wpList_val (v := ?_) rfl ?_ ?_
  rotate_left
  · (go_simp; (try (first | with_reducible rfl | (constructor <;> with_reducible rfl))))
  (try simp only [Act.put, List.setIfInBounds_toArray, List.set_cons_zero, List.set_cons_succ])
  refine wpList_val (v := ?_) rfl ?_ ?_
  rotate_left
  · (go_simp; (try (first | with_reducible rfl | (constructor <;> with_reducible rfl))))
  (try simp only [Act.put, List.setIfInBounds_toArray, List.set_cons_zero, List.set_cons_succ])
  refine wpList_val (v := ?_) rfl ?_ ?_
  rotate_left
  · (go_simp; (try (first | with_reducible rfl | (constructor <;> with_reducible rfl))))
  (try simp only [Act.put, List.setIfInBounds_toArray, List.set_cons_zero, List.set_cons_succ])
  first | (refine wpList_val (v := ?_) (by rfl) ?_ ?_; rotate_left; focus ((go_simp; (try (first | with_reducible rfl | (constructor <;> with_reducible rfl)))))) | refine wpList_skip (by rfl) ?_
  (try simp only [Act.put, List.setIfInBounds_toArray, List.set_cons_zero, List.set_cons_succ])
  first | (refine wpList_val (v := ?_) (by rfl) ?_ ?_; rotate_left; focus ((go_simp; (try (first | with_reducible rfl | (constructor <;> with_reducible rfl)))))) | refine wpList_skip (by rfl) ?_
  (try simp only [Act.put, List.setIfInBounds_toArray, List.set_cons_zero, List.set_cons_succ])
  first | (refine wpList_val (v := ?_) (by rfl) ?_ ?_; rotate_left; focus ((go_simp; (try (first | with_reducible rfl | (constructor <;> with_reducible rfl)))))) | refine wpList_skip (by rfl) ?_
  (try simp only [Act.put, List.setIfInBounds_toArray, List.set_cons_zero, List.set_cons_succ])
  refine wpList_val (v := ?_) rfl ?_ ?_
  rotate_left
  · (go_simp; (try (first | with_reducible rfl | (constructor <;> with_reducible rfl))))
  (try simp only [Act.put, List.setIfInBounds_toArray, List.set_cons_zero, List.set_cons_succ])
  refine wpList_val (v := ?_) rfl ?_ ?_
  rotate_left
  · (go_simp; (try (first | with_reducible rfl | (constructor <;> with_reducible rfl))))
  (try simp only [Act.put, List.setIfInBounds_toArray, List.set_cons_zero, List.set_cons_succ])
  first | (refine wpList_val (v := ?_) (by rfl) ?_ ?_; rotate_left; focus ((go_simp; (try (first | with_reducible rfl | (constructor <;> with_reducible rfl)))))) | refine wpList_skip (by rfl) ?_
  (try simp only [Act.put, List.setIfInBounds_toArray, List.set_cons_zero, List.set_cons_succ])
  first | (refine wpList_val (v := ?_) (by rfl) ?_ ?_; rotate_left; focus ((go_simp; (try (first | with_reducible rfl | (constructor <;> with_reducible rfl)))))) | refine wpList_skip (by rfl) ?_
  (try simp only [Act.put, List.setIfInBounds_toArray, List.set_cons_zero, List.set_cons_succ])
  refine wpList_val (v := ?_) rfl ?_ ?_
  rotate_left
  · (go_simp; (try (first | with_reducible rfl | (constructor <;> with_reducible rfl))))
  (try simp only [Act.put, List.setIfInBounds_toArray, List.set_cons_zero, List.set_cons_succ])
  refine wpList_val (v := ?_) rfl ?_ ?_
  rotate_left
  · (go_simp; (try (first | with_reducible rfl | (constructor <;> with_reducible rfl))))
  (try simp only [Act.put, List.setIfInBounds_toArray, List.set_cons_zero, List.set_cons_succ])
  first | (refine wpList_val (v := ?_) (by rfl) ?_ ?_; rotate_left; focus ((go_simp; (try (first | with_reducible rfl | (constructor <;> with_reducible rfl)))))) | refine wpList_skip (by rfl) ?_
  (try simp only [Act.put, List.setIfInBounds_toArray, List.set_cons_zero, List.set_cons_succ])
  first | (refine wpList_val (v := ?_) (by rfl) ?_ ?_; rotate_left; focus ((go_simp; (try (first | with_reducible rfl | (constructor <;> with_reducible rfl)))))) | refine wpList_skip (by rfl) ?_
  (try simp only [Act.put, List.setIfInBounds_toArray, List.set_cons_zero, List.set_cons_succ])
  refine wpList_act (v := ?_) (w' := ?_) (by rfl) ?_ ?_
  rotate_left 2
  · (go_simp; (try (first | with_reducible rfl | (constructor <;> with_reducible rfl))))
  (try simp only [Act.put, List.setIfInBounds_toArray, List.set_cons_zero, List.set_cons_succ])
  refine wpList_step (fun K hK => ?_)
  go_simp
  have L5 : Slc (w4.alloc (.cells #[.int .i64 17592186044416] 2)) (some ⟨w4.heap.size, 0, none⟩) 1 awR := (by intro i hi; obtain rfl : i = 0 := (by omega); exact ⟨_, _, rfl, by simp [go_sem, awR]⟩); (refine (new_any _ false _ _ 1 awR _ (F4.out.alloc _).cell (F4.out.alloc _).free L5).mono ?_); rintro e w5 ⟨rfl, hu⟩; (rw [newH_awR] at hu); replace hu : Upd ⟨w.heap.size, 0, none⟩ false _ w5 := hu; have F5 := Lib.hid ((F4.out.alloc _).hit hu); have B5 := Lib.hid (own_upd (B4.out.alloc B4.out.size _) (Nat.le_refl _) hu); have G5 := Lib.hid ((G4.out.alloc _).upd hu (by show w3.heap.size + 1 ≠ w.heap.size; omega)); clear hu L5
  (try dsimp only)
  (try simp only [Act.put, List.setIfInBounds_toArray, List.set_cons_zero, List.set_cons_succ])
  refine hK _ _ ?_
  clear hK K
  refine wpList_act (v := ?_) (w' := ?_) (by rfl) ?_ ?_
  rotate_left 2
  · (go_simp; (try (first | with_reducible rfl | (constructor <;> with_reducible rfl))))
  (try simp only [Act.put, List.setIfInBounds_toArray, List.set_cons_zero, List.set_cons_succ])
  refine wpList_step (fun K hK => ?_)
  go_simp
  have L6 : Slc (w5.alloc (.cells #[.int .i64 0] 3)) (some ⟨w5.heap.size, 0, none⟩) 1 (fun _ => 0) := (by intro i hi; obtain rfl : i = 0 := (by omega); exact ⟨_, _, rfl, by simp [go_sem]⟩); (refine (pick_any _ 1 _ (fun _ => 0) _ L6 (by omega)).mono ?_); rintro e w6 ⟨rfl, hb⟩; have F6 := Lib.hid ((F5.out.alloc _).below hb); have B6 := Lib.hid (Below.after (B5.out.alloc B5.out.size _) hb); have G6 := Lib.hid ((G5.out.alloc _).below hb); clear hb L6
  (try dsimp only)
  (try simp only [Act.put, List.setIfInBounds_toArray, List.set_cons_zero, List.set_cons_succ])
  refine hK _ _ ?_
  clear hK K
  refine wpList_step (fun K hK => ?_)
  go_simp
  (rw [pkS_0, show newF 1 awR = awP from rfl]); (refine (innov_any _ false awP (pkF 0) 5 w6 F6.out.cell F6.out.free).mono ?_); rintro e w7 ⟨rfl, hu⟩; (rw [N5.out]); (rw [N6.out] at hu); replace hu : Upd ⟨w.heap.size, 0, none⟩ false w6 w7 := hu; have F7 := Lib.hid (F6.out.hit hu); have B7 := Lib.hid (own_upd B6.out (Nat.le_refl _) hu); have G7 := Lib.hid (G6.out.upd hu (by show w3.heap.size + 1 ≠ w.heap.size; omega)); clear hu
  (try dsimp only)
  (try simp only [Act.put, List.setIfInBounds_toArray, List.set_cons_zero, List.set_cons_succ])
  refine hK _ _ ?_
  clear hK K
  first | (refine wpList_val (v := ?_) (by rfl) ?_ ?_; rotate_left; focus ((go_simp; (try (first | with_reducible rfl | (constructor <;> with_reducible rfl)))))) | refine wpList_skip (by rfl) ?_
  (try simp only [Act.put, List.setIfInBounds_toArray, List.set_cons_zero, List.set_cons_succ])
  refine wpList_val (v := ?_) rfl ?_ ?_
  rotate_left
  · (go_simp; (try (first | with_reducible rfl | (constructor <;> with_reducible rfl))))
  (try simp only [Act.put, List.setIfInBounds_toArray, List.set_cons_zero, List.set_cons_succ])
  refine wpList_val (v := ?_) rfl ?_ ?_
  rotate_left
  · (go_simp; (try (first | with_reducible rfl | (constructor <;> with_reducible rfl))))
  (try simp only [Act.put, List.setIfInBounds_toArray, List.set_cons_zero, List.set_cons_succ])
  refine wpList_act (v := ?_) (w' := ?_) (by rfl) ?_ ?_
  rotate_left 2
  · (go_simp; (try (first | with_reducible rfl | (constructor <;> with_reducible rfl))))
  (try simp only [Act.put, List.setIfInBounds_toArray, List.set_cons_zero, List.set_cons_succ])
  refine wpList_step (fun K hK => ?_)
  go_simp
  have L8 : Slc (w7.alloc (.cells #[.int .i64 1, .int .i64 3, .int .i64 99] 3)) (some ⟨w7.heap.size, 0, none⟩) 3 awL3 := (by intro i hi; obtain rfl | rfl | rfl : i = 0 ∨ i = 1 ∨ i = 2 := (by omega); exact ⟨_, _, rfl, by simp [go_sem, awL3]⟩; exact ⟨_, _, rfl, by simp [go_sem, awL3]⟩; exact ⟨_, _, rfl, by simp [go_sem, awL3]⟩); (refine (pick_any _ 3 _ awL3 _ L8 (by omega)).mono ?_); rintro e w8 ⟨rfl, hb⟩; have F8 := Lib.hid ((F7.out.alloc _).below hb); have B8 := Lib.hid (Below.after (B7.out.alloc B7.out.size _) hb); have G8 := Lib.hid ((G7.out.alloc _).below hb); clear hb L8
  (try dsimp only)
  (try simp only [Act.put, List.setIfInBounds_toArray, List.set_cons_zero, List.set_cons_succ])
  refine hK _ _ ?_
  clear hK K
  first | (refine wpList_val (v := ?_) (by rfl) ?_ ?_; rotate_left; focus (refine Eq.trans (run_index_row (.tmp 43) (.const (.int .i64 3)) (by rfl) (by rfl) 3 (by rfl) (by omega)) ?_; rw [show pkS awL3 3 3 = 1073741824 from by decide])) | refine wpList_skip (by rfl) ?_
  (try simp only [Act.put, List.setIfInBounds_toArray, List.set_cons_zero, List.set_cons_succ])
  first | (refine wpList_val (v := ?_) (by rfl) ?_ ?_; rotate_left; focus ((go_simp; (try (first | with_reducible rfl | (constructor <;> with_reducible rfl)))))) | refine wpList_skip (by rfl) ?_
  (try simp only [Act.put, List.setIfInBounds_toArray, List.set_cons_zero, List.set_cons_succ])
  refine wpList_val (v := ?_) rfl ?_ ?_
  rotate_left
  · (go_simp; (try (first | with_reducible rfl | (constructor <;> with_reducible rfl))))
  (try simp only [Act.put, List.setIfInBounds_toArray, List.set_cons_zero, List.set_cons_succ])
  refine wpList_val (v := ?_) rfl ?_ ?_
  rotate_left
  · (go_simp; (try (first | with_reducible rfl | (constructor <;> with_reducible rfl))))
  (try simp only [Act.put, List.setIfInBounds_toArray, List.set_cons_zero, List.set_cons_succ])
  first | (refine wpList_val (v := ?_) (by rfl) ?_ ?_; rotate_left; focus ((go_simp; (try (first | with_reducible rfl | (constructor <;> with_reducible rfl)))))) | refine wpList_skip (by rfl) ?_
  (try simp only [Act.put, List.setIfInBounds_toArray, List.set_cons_zero, List.set_cons_succ])
  first | (refine wpList_val (v := ?_) (by rfl) ?_ ?_; rotate_left; focus (refine Eq.trans (run_load_row 40 (.tmp 3) (by rfl) (w3.heap.size + 1) (by rfl) _ _ _ _ (G8.out) Try.underlying40 rfl (irow.trans (by rw [arrv_size]))) ?_; with_reducible rfl)) | refine wpList_skip (by rfl) ?_
  (try simp only [Act.put, List.setIfInBounds_toArray, List.set_cons_zero, List.set_cons_succ])
  refine wpList_step (fun K hK => ?_)
  go_simp
  (refine (gain_any _ false awG 4 w8 F8.out.cell F8.out.free).mono ?_); rintro e w9 ⟨rfl, hu⟩; (rw [aw_gain.2] at hu); replace hu : Upd ⟨w.heap.size, 0, none⟩ false w8 w9 := hu; have F9 := F8.out.hit hu; have B9 := Lib.hid (own_upd B8.out (Nat.le_refl _) hu); have c9 := F9.cell; clear hu F9
  (try dsimp only)
  (try simp only [Act.put, List.setIfInBounds_toArray, List.set_cons_zero, List.set_cons_succ])
  refine hK _ _ ?_
  clear hK K
  first | (refine wpList_val (v := ?_) (by rfl) ?_ ?_; rotate_left; focus (refine Eq.trans (run_index_row (.tmp 50) (.const (.int .i64 0)) (by rfl) (by rfl) 0 (by rfl) (by omega)) ?_; rw [aw_gain.1])) | refine wpList_skip (by rfl) ?_
  (try simp only [Act.put, List.setIfInBounds_toArray, List.set_cons_zero, List.set_cons_succ])
  first | (refine wpList_val (v := ?_) (by rfl) ?_ ?_; rotate_left; focus ((go_simp; (try (first | with_reducible rfl | (constructor <;> with_reducible rfl)))))) | refine wpList_skip (by rfl) ?_
  (try simp only [Act.put, List.setIfInBounds_toArray, List.set_cons_zero, List.set_cons_succ])
  refine wpList_val (v := ?_) rfl ?_ ?_
  rotate_left
  · (go_simp; (try (first | with_reducible rfl | (constructor <;> with_reducible rfl))))
  (try simp only [Act.put, List.setIfInBounds_toArray, List.set_cons_zero, List.set_cons_succ])
  refine wpList_val (v := ?_) rfl ?_ ?_
  rotate_left
  · (go_simp; (try (first | with_reducible rfl | (constructor <;> with_reducible rfl))))
  (try simp only [Act.put, List.setIfInBounds_toArray, List.set_cons_zero, List.set_cons_succ])
  first | (refine wpList_val (v := ?_) (by rfl) ?_ ?_; rotate_left; focus ((go_simp; (try (first | with_reducible rfl | (constructor <;> with_reducible rfl)))))) | refine wpList_skip (by rfl) ?_
  (try simp only [Act.put, List.setIfInBounds_toArray, List.set_cons_zero, List.set_cons_succ])
  first | (refine wpList_val (v := ?_) (by rfl) ?_ ?_; rotate_left; focus ((go_simp; (try (first | with_reducible rfl | (constructor <;> with_reducible rfl)))))) | refine wpList_skip (by rfl) ?_
  (try simp only [Act.put, List.setIfInBounds_toArray, List.set_cons_zero, List.set_cons_succ])
  first | (refine wpList_val (v := ?_) (by rfl) ?_ ?_; rotate_left; focus ((go_simp; (try (first | with_reducible rfl | (constructor <;> with_reducible rfl)))))) | refine wpList_skip (by rfl) ?_
  (try simp only [Act.put, List.setIfInBounds_toArray, List.set_cons_zero, List.set_cons_succ])
  first | (refine wpList_val (v := ?_) (by rfl) ?_ ?_; rotate_left; focus ((go_simp; (try (first | with_reducible rfl | (constructor <;> with_reducible rfl)))))) | refine wpList_skip (by rfl) ?_
  (try simp only [Act.put, List.setIfInBounds_toArray, List.set_cons_zero, List.set_cons_succ])
  first | (refine wpList_val (v := ?_) (by rfl) ?_ ?_; rotate_left; focus ((go_simp; (try (first | with_reducible rfl | (constructor <;> with_reducible rfl)))))) | refine wpList_skip (by rfl) ?_
  (try simp only [Act.put, List.setIfInBounds_toArray, List.set_cons_zero, List.set_cons_succ])
  refine wpList_val (v := ?_) rfl ?_ ?_
  rotate_left
  · (go_simp; (try (first | with_reducible rfl | (constructor <;> with_reducible rfl))))
  (try simp only [Act.put, List.setIfInBounds_toArray, List.set_cons_zero, List.set_cons_succ])
  refine wpList_val (v := ?_) rfl ?_ ?_
  rotate_left
  · (go_simp; (try (first | with_reducible rfl | (constructor <;> with_reducible rfl))))
  (try simp only [Act.put, List.setIfInBounds_toArray, List.set_cons_zero, List.set_cons_succ])
  refine wpList_nil ?_
  go_wp2_with fail
  go_ret
  exact ⟨rfl, B9.out⟩
end Go.Proofs.Ytokcdlcmamdloaa
/- '==' of two rows. -/
namespace Go.Proofs.Ytokcdlcmamdloaa
open Go.RowKit
set_option maxRecDepth 100000
theorem run_equal_row (w : World) (f g : Nat → Int) : (Op.equal 40 (.agg (arrv 24 f)) (.agg (arrv 24 g))).run Try.prog w = .ok (eqB 24 f g) w := by
  have h : (Try.prog.info? 2).map (·.size) = some 1 := by kernel_rfl
  obtain ⟨i, h2, s2⟩ : ∃ i, Try.prog.info? 2 = some i ∧ i.size = 1 := by
    cases e : Try.prog.info? 2 with
    | none => rw [e] at h; cases h
    | some i => rw [e] at h; exact ⟨i, rfl, by simpa using h⟩
  exact run_equalIn_vec (w := w) 9998 Try.underlying40 Try.underlying2 (by simp [Program.cellsOf, h2, s2]) h2 _ _
open Go in
theorem run_op_eqlRow {o : Oper} {ev : Operand → Value} {w : World} (x y : Operand) (ho : o.op = .binOp .eql 40 x y 40) {f g : Nat → Int} (hx : ev x = .agg (arrv 24 f)) (hy : ev y = .agg (arrv 24 g)) {b : Bool} (hb : eqB 24 f g = b) :
    (execOp ev o).run Try.prog w = .ok (.value (.bool b)) w := by
  have e := run_equal_row w f g
  have hG : Try.prog.eqGuardType Try.prog.depth 40 = false := by kernel_rfl
  unfold execOp
  simp only [ho, hx, hy, eqGuard, binOp, Sem.run_bind, Sem.run_pure, Result.andThen_ok]
  simp [hG, e, hb, go_sem]
theorem iu276 : (Try.prog.info? 22).map (·.size) = some 276 := by kernel_rfl
theorem run_equal_u (w : World) (f g : Nat → Int) : (Op.equal 22 (.agg (arrv 276 f)) (.agg (arrv 276 g))).run Try.prog w = .ok (eqB 276 f g) w := by
  have h : (Try.prog.info? 2).map (·.size) = some 1 := by kernel_rfl
  obtain ⟨i, h2, s2⟩ : ∃ i, Try.prog.info? 2 = some i ∧ i.size = 1 := by
    cases e : Try.prog.info? 2 with
    | none => rw [e] at h; cases h
    | some i => rw [e] at h; exact ⟨i, rfl, by simpa using h⟩
  exact run_equalIn_vec (w := w) 9998 Try.underlying22 Try.underlying2 (by simp [Program.cellsOf, h2, s2]) h2 _ _
open Go in
theorem run_op_eqlU {o : Oper} {ev : Operand → Value} {w : World} (x y : Operand) (ho : o.op = .binOp .eql 22 x y 22) {f g : Nat → Int} (hx : ev x = .agg (arrv 276 f)) (hy : ev y = .agg (arrv 276 g)) {b : Bool} (hb : eqB 276 f g = b) :
    (execOp ev o).run Try.prog w = .ok (.value (.bool b)) w := by
  have e := run_equal_u w f g
  have hG : Try.prog.eqGuardType Try.prog.depth 22 = false := by kernel_rfl
  unfold execOp
  simp only [ho, hx, hy, eqGuard, binOp, Sem.run_bind, Sem.run_pure, Result.andThen_ok]
  simp [hG, e, hb, go_sem]
open Go in
theorem wpAnyM_threeS {P : Program} {ops : Array Oper} {Q : Exit → Act → World → Prop} {md : Region.Mode} {L : Nat} {S : World → Prop} (i j l : Nat) {oi oj ol : Oper} {fuel : Nat} {listed : Array Bool} {a : Act} {w : World} (hi : ops.toList[i]? = some oi) (hj : ops.toList[j]? = some oj) (hl : ops.toList[l]? = some ol) (hr : Region.ready md ops listed = [i, j, l])
    (h1 : ∀ K : Act → World → Prop, Shut (∀ a w, S w → (S w → wpAnyM P md ops Q S L fuel (listed.setIfInBounds i true) a w) → K a w) →
      if Region.wanted oi (yielded ops a.tmps) = true then Oper.wp P oi a w K Q else K (a.put oi.dst undef) w)
    (h2 : ∀ K : Act → World → Prop, Shut (∀ a w, S w → (S w → wpAnyM P md ops Q S L fuel (listed.setIfInBounds j true) a w) → K a w) →
      if Region.wanted oj (yielded ops a.tmps) = true then Oper.wp P oj a w K Q else K (a.put oj.dst undef) w)
    (h3 : ∀ K : Act → World → Prop, Shut (∀ a w, S w → (S w → wpAnyM P md ops Q S L fuel (listed.setIfInBounds l true) a w) → K a w) →
      if Region.wanted ol (yielded ops a.tmps) = true then Oper.wp P ol a w K Q else K (a.put ol.dst undef) w) :
    wpAnyM P md ops Q S L (fuel + 1) listed a w := by
  have hi' : ops[i]? = some oi := by rwa [Array.getElem?_toList] at hi
  have hj' : ops[j]? = some oj := by rwa [Array.getElem?_toList] at hj
  have hl' : ops[l]? = some ol := by rwa [Array.getElem?_toList] at hl
  refine ⟨fun h0 => (by rw [hr] at h0; cases h0), fun k hk => ?_⟩
  rw [hr] at hk
  have hk' : k = i ∨ k = j ∨ k = l := by simpa using hk
  rcases hk' with rfl | rfl | rfl
  · exact wpOp_step hi' (fun K' hK => h1 K' (fun a w hS hW => hK a w ⟨.inr hS, hW hS⟩))
  · exact wpOp_step hj' (fun K' hK => h2 K' (fun a w hS hW => hK a w ⟨.inr hS, hW hS⟩))
  · exact wpOp_step hl' (fun K' hK => h3 K' (fun a w hS hW => hK a w ⟨.inr hS, hW hS⟩))
open Go in
/-- An operation that changes the world and gives nothing (a store), by its run: the walk's goal is never looked into. -/
theorem wpAnyM_doneS {P : Program} {ops : Array Oper} {Q : Exit → Act → World → Prop} {md : Region.Mode} {L : Nat} {S : World → Prop} (i : Nat) {o : Oper} {fuel : Nat} {listed : Array Bool} {a : Act} {w w' : World} (ho : ops.toList[i]? = some o) (hr : Region.ready md ops listed = [i])
    (hw : Region.wanted o (yielded ops a.tmps) = true) (hy : (execOp a.eval o).run P w = .ok .skip w') (hS : S w') (h : S w' → wpAnyM P md ops Q S L fuel (listed.setIfInBounds i true) (a.put o.dst undef) w') :
    wpAnyM P md ops Q S L (fuel + 1) listed a w :=
  wpAnyM_oneS i ho hr fun K hK => by
    rw [if_pos hw]
    exact wp_of_run hy (hK.out _ _ hS h)
end Go.Proofs.Ytokcdlcmamdloaa
/- An empty slice built, and a whole slice appended to it: of int, of int64. -/
namespace Go.Proofs.Ytokcdlcmamdloaa
open Go.RowKit
open Go
set_option maxRecDepth 100000
theorem slc_src {w : World} {q : Option Addr} {n cp : Nat} {L : Nat → Int} (h : Slc w q n L) (hn : 0 < n) :
    ∃ a, q = some a ∧ ∀ j v, ((List.range n).map fun i => Value.int .i64 (L i))[j]? = some v → w.cell? (a.add j) = some v := by
  obtain ⟨b, o, rfl, _⟩ := h 0 hn
  refine ⟨⟨b, o, none⟩, rfl, fun j v hj => ?_⟩
  have hjn : j < n := by
    have := (List.getElem?_eq_some_iff.1 hj).1
    simpa using this
  obtain ⟨b', o', e, hc⟩ := h j hjn
  injection e with e
  injection e with e1 e2
  subst e1 e2
  rw [show ((List.range n).map fun i => Value.int .i64 (L i))[j]? = some (Value.int .i64 (L j)) from by simp [hjn]] at hj
  injection hj with hj
  rw [← hj]
  unfold Addr.add
  split
  · rename_i h0; subst h0; simpa using hc
  · exact hc
theorem run_appAll {P : Program} (t ty e : TypeId) (i : TypeInfo) (ht : P.underlying t = some (.slice e)) (hi : P.info? e = some i) (hz : i.zero = some (.int .i64 0)) (hs : i.size = 1) (hb : i.bytes = 8)
    (w : World) (b : Addr) (q : Option Addr) (n cp : Nat) (L : Nat → Int) (hL : Slc w q n L) (hn : n ≤ 1000000) :
    ∃ q' cap w', (Builtin.append_ #[t, t] ty #[.slice (some b) 0 0, .slice q n cp]).run P w = .ok (.slice q' n cap) w' ∧ Below w.heap.size w w' ∧ Slc w' q' n L := by
  rcases Nat.eq_zero_or_pos n with h0 | h0
  · subst h0
    refine ⟨some b, 0, w, ?_, Below.refl _ _, fun i hi => absurd hi (Nat.not_lt_zero _)⟩
    refine run_append_nothing w t t ty e i ht hi (some b) 0 0 (Nat.le_refl _) _ ⟨.inl ⟨e, ht⟩, fun w' => ?_, ?_, ?_, by simp, fun u hu => by cases hu⟩
    · simp [Builtin.lenOf]
    · cases q <;> simp [Builtin.firstCells, loadCells, loadCellsFrom]
    · cases q <;> simp [Builtin.firstCells, loadCells, loadCellsFrom]
  · obtain ⟨a, rfl, ha⟩ := slc_src (cp := cp) hL h0
    have hcap : Builtin.nextslicecap (0 + n) 0 * i.bytes ≤ 281474976710656 := by
      have := nextslicecap_le (need := 0 + n) (old := 0) (by omega)
      rw [hb]; omega
    have hr := run_append_grow w t ty e i _ ht hi hz b 0 0 [] (by simp) (fun j v hj => by cases hj) a n cp ((List.range n).map fun i => Value.int .i64 (L i)) (by simp [hs]) ha (by omega) (by omega) hcap
    rw [Nat.zero_add] at hr
    refine ⟨_, _, _, hr, ((Below.refl _ _).drew).alloc (Nat.le_refl _) _, ?_⟩
    intro j hj
    refine ⟨w.heap.size, 0, rfl, ?_⟩
    rw [Nat.zero_add]
    have hd : w.drew.heap = w.heap := rfl
    refine (cell_of_row _ w.heap.size j (([] : List Value).toArray ++ ((List.range n).map fun i => Value.int .i64 (L i)).toArray ++ Builtin.zeroCells (Value.int .i64 0).cells (grownCap w n 0 e - n)) e (0, 0) (by simp [World.alloc, hd])).trans ?_
    rw [Array.getElem?_append_left (by simp; omega)]
    simp [hj]
theorem info_i64g : (Try.prog.info? 2).map (fun i => (i.zero, i.size, i.bytes)) = some (some (.int .i64 0), 1, 8) := by kernel_rfl
theorem info_intg : (Try.prog.info? 3).map (fun i => (i.zero, i.size, i.bytes)) = some (some (.int .i64 0), 1, 8) := by kernel_rfl
theorem info_open {P : Program} {e : TypeId} (h : (P.info? e).map (fun i => (i.zero, i.size, i.bytes)) = some (some (.int .i64 0), 1, 8)) : ∃ i, P.info? e = some i ∧ i.zero = some (.int .i64 0) ∧ i.size = 1 ∧ i.bytes = 8 := by
  cases e : P.info? e with
  | none => rw [e] at h; cases h
  | some i => rw [e] at h; simp at h; exact ⟨i, rfl, h.1, h.2.1, h.2.2⟩
theorem wp_bsl0_int {o : Oper} {a : Act} {w : World} {K : Act → World → Prop} {Q : Exit → Act → World → Prop} (ho : o.op = .buildSlice 41 0 #[])
    (h : K (a.put o.dst (.slice (some ⟨w.heap.size, 0, none⟩) 0 0)) (w.alloc (.cells #[] 3))) : o.wp Try.prog a w K Q := by
  have hr : (Instr.buildSlice 41 0 #[]).run Try.prog w = .ok (.slice (some ⟨w.heap.size, 0, none⟩) 0 0) (w.alloc (.cells #[] 3)) := by
    obtain ⟨i, hi, hz, hs, hb⟩ := info_open info_intg
    unfold Instr.buildSlice
    simp [Sem.run_bind, run_underlying Try.underlying41, sizeOf, typeInfo, hi, hs, Instr.fill, newRow, newObj, go_sem]
    rfl
  unfold Oper.wp execOp
  simp only [ho, Sem.run_bind, List.map_toArray, List.map_nil, hr, Result.andThen_ok]
  exact h
theorem wp_appAll_int {o : Oper} {a : Act} {w : World} {K : Act → World → Prop} {Q : Exit → Act → World → Prop} (s x : Operand)
    (ho : o.op = .call { callee := .builtin .append, args := #[s, x], argTypes := #[41, 41] })
    (b : Addr) (q : Option Addr) (n cp : Nat) (L : Nat → Int) (hs : a.eval s = .slice (some b) 0 0) (hx : a.eval x = .slice q n cp) (hL : Slc w q n L) (hn : n ≤ 1000000)
    (h : ∀ q' cap w', Below w.heap.size w w' → Slc w' q' n L → K (a.put o.dst (.slice q' n cap)) w') : o.wp Try.prog a w K Q := by
  obtain ⟨i, hi, hz, hs', hb⟩ := info_open info_intg
  obtain ⟨q', cap, w', hr, h1, h2⟩ := run_appAll 41 o.type 3 i Try.underlying41 hi hz hs' hb w b q n cp L hL hn
  unfold Oper.wp execOp
  simp only [ho, resolve, invoke, builtin, Sem.run_bind, Sem.run_pure, Result.andThen_ok, List.map_toArray, List.map_cons, List.map_nil, hs, hx, hr]
  exact h q' cap w' h1 h2
theorem wp_bsl0_i64 {o : Oper} {a : Act} {w : World} {K : Act → World → Prop} {Q : Exit → Act → World → Prop} (ho : o.op = .buildSlice 52 0 #[])
    (h : K (a.put o.dst (.slice (some ⟨w.heap.size, 0, none⟩) 0 0)) (w.alloc (.cells #[] 2))) : o.wp Try.prog a w K Q := by
  have hr : (Instr.buildSlice 52 0 #[]).run Try.prog w = .ok (.slice (some ⟨w.heap.size, 0, none⟩) 0 0) (w.alloc (.cells #[] 2)) := by
    obtain ⟨i, hi, hz, hs, hb⟩ := info_open info_i64g
    unfold Instr.buildSlice
    simp [Sem.run_bind, run_underlying Try.underlying52, sizeOf, typeInfo, hi, hs, Instr.fill, newRow, newObj, go_sem]
    rfl
  unfold Oper.wp execOp
  simp only [ho, Sem.run_bind, List.map_toArray, List.map_nil, hr, Result.andThen_ok]
  exact h
theorem wp_appAll_i64 {o : Oper} {a : Act} {w : World} {K : Act → World → Prop} {Q : Exit → Act → World → Prop} (s x : Operand)
    (ho : o.op = .call { callee := .builtin .append, args := #[s, x], argTypes := #[52, 52] })
    (b : Addr) (q : Option Addr) (n cp : Nat) (L : Nat → Int) (hs : a.eval s = .slice (some b) 0 0) (hx : a.eval x = .slice q n cp) (hL : Slc w q n L) (hn : n ≤ 1000000)
    (h : ∀ q' cap w', Below w.heap.size w w' → Slc w' q' n L → K (a.put o.dst (.slice q' n cap)) w') : o.wp Try.prog a w K Q := by
  obtain ⟨i, hi, hz, hs', hb⟩ := info_open info_i64g
  obtain ⟨q', cap, w', hr, h1, h2⟩ := run_appAll 52 o.type 2 i Try.underlying52 hi hz hs' hb w b q n cp L hL hn
  unfold Oper.wp execOp
  simp only [ho, resolve, invoke, builtin, Sem.run_bind, Sem.run_pure, Result.andThen_ok, List.map_toArray, List.map_cons, List.map_nil, hs, hx, hr]
  exact h q' cap w' h1 h2
end Go.Proofs.Ytokcdlcmamdloaa
/- Arguments that are arrays of int64 (or structs of such): opened as numbers; a slice of int64 too. Of no one program. -/
namespace Go.Proofs.Ytokcdlcmamdloaa
open Go.RowKit Go.ChangeShapes
def AllInt (cs : List Value) : Prop := ∀ v, v ∈ cs → ∃ z, v = .int .i64 z ∧ (Lit.int .i64 z).wf = true
section
variable {H : Type} {enc : TypeId × Value → H} {P : Program} {w : World} {base : Nat} {spare : Nat → Bool} {held : Bool}
/-- What reads as t is int64 numbers alone. -/
def Ints (enc : TypeId × Value → H) (P : Program) (w : World) (base : Nat) (spare : Nat → Bool) (held : Bool) (t : TypeId) : Prop :=
  ∀ fuel cs x, DataW.trod enc P w base spare held fuel t cs = some x → AllInt cs ∧ x.2 = []
theorem ints_int {t : TypeId} (hu : P.underlying t = some (.int .i64)) : Ints enc P w base spare held t := by
  intro fuel cs x h
  obtain ⟨n, h1, h2, h3⟩ := DataW.trod_int hu h
  subst h1
  refine ⟨fun v hv => ?_, ?_⟩
  · rw [List.mem_singleton] at hv; exact ⟨n, hv, h3⟩
  · rw [h2]
theorem ints_array {t e : TypeId} {n m : Nat} (hu : P.underlying t = some (.array n e)) (hc : P.cellsOf t = n * m) (hm : P.cellsOf e = m) (he : Ints enc P w base spare held e) : Ints enc P w base spare held t := by
  intro fuel cs x h
  obtain ⟨xs, k, rfl, rfl, hl, hx, hi⟩ := DataW.trod_array hu h
  rw [hc] at hl
  rw [hm] at hi
  refine ⟨fun v hv => ?_, ?_⟩
  · obtain ⟨q, hq, rfl⟩ := List.getElem_of_mem hv
    have hm0 : 0 < m := by
      rcases Nat.eq_zero_or_pos m with h0 | h0
      · subst h0; omega
      · exact h0
    have hqm : q / m < n := by rw [Nat.div_lt_iff_lt_mul hm0]; omega
    have hh := hi (q / m) hqm
    rw [List.getElem?_eq_getElem (by omega)] at hh
    refine (he _ _ _ hh).1 _ ?_
    rw [List.mem_iff_getElem?]
    refine ⟨q % m, ?_⟩
    rw [List.getElem?_take_of_lt (Nat.mod_lt _ hm0), List.getElem?_drop, Nat.mul_comm, Nat.div_add_mod]
    exact List.getElem?_eq_getElem hq
  · show xs.flatMap (·.2) = []
    rw [List.flatMap_eq_nil_iff]
    intro y hy
    obtain ⟨q, hq, rfl⟩ := List.getElem_of_mem hy
    have hh := hi q (by omega)
    rw [List.getElem?_eq_getElem hq] at hh
    exact (he _ _ _ hh).2
/-- A struct of two: U's numbers, then D's. -/
theorem ints_struct2 {t : TypeId} {f0 f1 : Field} {a b : Nat} (hu : P.underlying t = some (.struct #[f0, f1])) (hc : P.cellsOf t = a + b) (o0 : f0.offset = 0) (o1 : f1.offset = a) (c0 : P.cellsOf f0.type = a) (c1 : P.cellsOf f1.type = b)
    (h0 : Ints enc P w base spare held f0.type) (h1 : Ints enc P w base spare held f1.type) : Ints enc P w base spare held t := by
  intro fuel cs x h
  obtain ⟨xs, k, rfl, rfl, hl, hx, hi⟩ := DataW.trod_struct hu h
  rw [hc] at hl
  have hx2 : xs.length = 2 := hx
  have g0 := hi 0 f0 rfl
  have g1 := hi 1 f1 rfl
  rw [List.getElem?_eq_getElem (by omega)] at g0 g1
  have r0 := h0 _ _ _ g0
  have r1 := h1 _ _ _ g1
  refine ⟨fun v hv => ?_, ?_⟩
  · obtain ⟨q, hq, rfl⟩ := List.getElem_of_mem hv
    by_cases hqa : q < a
    · refine r0.1 _ ?_
      rw [List.mem_iff_getElem?]
      refine ⟨q, ?_⟩
      rw [c0, o0, List.drop_zero, List.getElem?_take_of_lt hqa]
      exact List.getElem?_eq_getElem hq
    · refine r1.1 _ ?_
      rw [List.mem_iff_getElem?]
      refine ⟨q - a, ?_⟩
      rw [c1, o1, List.getElem?_take_of_lt (by omega), List.getElem?_drop, show a + (q - a) = q by omega]
      exact List.getElem?_eq_getElem hq
  · show xs.flatMap (·.2) = []
    rw [List.flatMap_eq_nil_iff]
    intro y hy
    obtain ⟨q, hq, rfl⟩ := List.getElem_of_mem hy
    obtain rfl | rfl : q = 0 ∨ q = 1 := by omega
    · exact r0.2
    · exact r1.2
/-- A struct whose fields cover its cells. -/
theorem ints_struct {t : TypeId} {fs : Array Field} {n : Nat} (hu : P.underlying t = some (.struct fs)) (hc : P.cellsOf t = n)
    (hcov : ∀ q, q < n → ∃ (j : Nat) (f : Field), fs[j]? = some f ∧ f.offset ≤ q ∧ q < f.offset + P.cellsOf f.type)
    (hI : ∀ (j : Nat) (f : Field), fs[j]? = some f → Ints enc P w base spare held f.type) : Ints enc P w base spare held t := by
  intro fuel cs x h
  obtain ⟨xs, k, rfl, rfl, hl, hx, hi⟩ := DataW.trod_struct hu h
  rw [hc] at hl
  refine ⟨fun v hv => ?_, ?_⟩
  · obtain ⟨q, hq, rfl⟩ := List.getElem_of_mem hv
    obtain ⟨j, f, hj, h1, h2⟩ := hcov q (by omega)
    have hjl : j < xs.length := by rw [hx]; exact (Array.getElem?_eq_some_iff.1 hj).1
    have g := hi j f hj
    rw [List.getElem?_eq_getElem hjl] at g
    refine (hI j f hj _ _ _ g).1 _ ?_
    rw [List.mem_iff_getElem?]
    refine ⟨q - f.offset, ?_⟩
    rw [List.getElem?_take_of_lt (by omega), List.getElem?_drop, show f.offset + (q - f.offset) = q by omega]
    exact List.getElem?_eq_getElem hq
  · show xs.flatMap (·.2) = []
    rw [List.flatMap_eq_nil_iff]
    intro y hy
    obtain ⟨q, hq, rfl⟩ := List.getElem_of_mem hy
    have hq2 : q < fs.size := by rw [← hx]; exact hq
    have g := hi q fs[q] (Array.getElem?_eq_getElem hq2)
    rw [List.getElem?_eq_getElem hq] at g
    exact (hI q _ (Array.getElem?_eq_getElem hq2) _ _ _ g).2
/-- A value of such a type: an aggregate of numbers. -/
theorem open_vec {r : Reach} {b0 n : Nat} {t : TypeId} {v : Value} {d : DataW H} {ps : List MemPlace} (hI : Ints enc P w base spare held t) (hc : P.cellsOf t = n)
    (hu : ∃ u, P.underlying t = some u ∧ (match u with | .struct _ | .array _ _ => true | _ => false) = true) (hval : Value.okWide P w r b0 t v) (hd : DataW.Trod enc P w base spare held t v d ps) :
    ∃ f : Nat → Int, v = .agg (arrv n f) ∧ (∀ i, -9223372036854775808 ≤ f i ∧ f i ≤ 9223372036854775807) ∧ ps = [] := by
  obtain ⟨u, hu1, hu2⟩ := hu
  have hv : ∃ cs, v = .agg cs ∧ cs.size = P.cellsOf t := by
    unfold Value.okWide at hval
    rw [hu1] at hval
    cases u <;> simp at hu2 hval <;> (obtain ⟨cs, h1, h2, _⟩ := hval; exact ⟨cs, h1, h2⟩)
  obtain ⟨cs, rfl, hs⟩ := hv
  rw [hc] at hs
  obtain ⟨fuel, hf⟩ := hd
  obtain ⟨hA, hp⟩ := hI _ _ _ hf
  have hA' : ∀ i, i < n → ∃ z, cs[i]? = some (.int .i64 z) ∧ (Lit.int .i64 z).wf = true := by
    intro i hi
    have hm : cs[i]'(by omega) ∈ (Value.agg cs).cells.toList := by simp [Value.cells]
    obtain ⟨z, hz, hw⟩ := hA _ hm
    exact ⟨z, by rw [Array.getElem?_eq_getElem (by omega), hz], hw⟩
  refine ⟨fun i => if h : i < n then Classical.choose (hA' i h) else 0, ?_, fun i => ?_, hp⟩
  · congr 1
    apply Array.ext_getElem?
    intro i
    by_cases hi : i < n
    · rw [arrv_get hi]
      simp only [dif_pos hi]
      exact (Classical.choose_spec (hA' i hi)).1
    · rw [Array.getElem?_eq_none (by omega), Array.getElem?_eq_none (by rw [arrv_size]; omega)]
  · by_cases hi : i < n
    · simp only [dif_pos hi]
      exact Go.bounds_i64 (Classical.choose_spec (hA' i hi)).2
    · simp only [dif_neg hi]; omega
end
end Go.Proofs.Ytokcdlcmamdloaa
/- The join of a law: arguments that read before the call read behind it, if nothing that was there has turned. -/
namespace Go.Proofs.Ytokcdlcmamdloaa
open Go.ChangeShapes Go.WideShapes Go.ChangeAt Go.RowKit
theorem trodAll_stays {H : Type} {enc : TypeId × Value → H} {P : Program} (hl : laidOutB P = true) {W W' : World} (hb : Below W.heap.size W W') {sp : Nat → Bool} : ∀ {ts : List TypeId} {vs : List Value} {ds : List (DataW H)} {p : List MemPlace},
    (ts.all fun t => P.readableRec t && decide (t < P.types.size)) = true → DataW.TrodAll enc P W 0 (fun _ => true) true ts vs ds p → (∀ x ∈ p, x.block < W.heap.size) → (∀ x ∈ p, sp x.block = true) → DataW.TrodAll enc P W' 0 sp true ts vs ds p
  | [], [], [], _, _, h, _, _ => h
  | t :: ts, v :: vs, d :: ds, p, ht, h, hlt, hsp => by
    obtain ⟨q, r, h1, h2, rfl⟩ := h
    rw [List.all_cons, Bool.and_eq_true, Bool.and_eq_true, decide_eq_true_eq] at ht
    exact ⟨q, r, WideElems.Trod_stays hl ht.1.1 ht.1.2 h1 (fun x hx => hb.same (hlt x (List.mem_append_left _ hx))) (fun x hx => hsp x (List.mem_append_left _ hx)),
      trodAll_stays hl hb ht.2 h2 (fun x hx => hlt x (List.mem_append_right _ hx)) (fun x hx => hsp x (List.mem_append_right _ hx)), rfl⟩
  | [], _ :: _, _, _, _, h, _, _ => by cases ‹List (DataW H)› <;> exact h.elim
  | [], [], _ :: _, _, _, h, _, _ => h.elim
  | _ :: _, [], _, _, _, h, _, _ => by cases ‹List (DataW H)› <;> exact h.elim
  | _ :: _, _ :: _, [], _, _, h, _, _ => h.elim
/-- What a law owes behind the call: it answers true, and nothing that was there has turned. -/
theorem law_post {H : Type} {enc : TypeId × Value → H} {P : Program} {f : Func} {s : ChangeSpec} {apart fresh handsOn again : Bool} {W W' : World} {args : Array Value} {ds gs : List (DataW H)} {before : List MemPlace} {tb : TypeId}
    (hW : DataW.Whole enc P f.params.toList s.vars apart W args.toList ds gs before) (hv : s.vars = []) (hfn : s.fn H ds = { results := [.lit (.bool true)], args := ds })
    (hu : P.underlying tb = some .bool) (hr : f.resultTypes = #[tb]) (hl : laidOutB P = true) (hts : (f.params.toList.all fun t => P.readableRec t && decide (t < P.types.size)) = true) (hb : Below W.heap.size W W') :
    s.post enc P f apart fresh handsOn again W args (.bool true) W' := by
  have hlt : ∀ x ∈ before, x.block < W.heap.size := fun x hx => hW.lt x hx
  have hW0 := hW
  obtain ⟨p, q, hA, hV, rfl, hfz, hnd⟩ := hW
  rw [hv] at hV
  obtain ⟨rfl, rfl⟩ := trodVars_none hV
  rw [List.append_nil] at hlt
  have hargs : ∀ sp : Nat → Bool, (∀ x ∈ p, sp x.block = true) → DataW.TrodAll enc P W' 0 sp true f.params.toList args.toList ds p := fun sp hsp => trodAll_stays hl hb hts hA hlt hsp
  have hvars : ∀ sp : Nat → Bool, DataW.TrodVars enc P W' sp s.vars ([] : List (DataW H)) [] := fun sp => by rw [hv]; exact rfl
  have hres : ∀ (b : Nat) (sp : Nat → Bool) (hd : Bool), DataW.TrodAll enc P W' b sp hd f.resultTypes.toList ((Value.bool true).resultList f.resultTypes.size) [.lit (.bool true)] [] := fun b sp hd => by
    rw [hr]; exact trodAll_mk1 (shut_bool hu _)
  have hold : ∀ x ∈ p, (fun b => decide (b < W.heap.size)) x.block = true := fun x hx => by simpa using hlt x hx
  have hfn' : s.fn H (ds ++ []) = { results := [.lit (.bool true)], args := ds } := by rw [List.append_nil]; exact hfn
  refine ⟨ds, [], p ++ [], [], p, [], hW0, ?_, ?_, ?_, World.keptBut_mono (fun x hx => ⟨hx, ?_⟩) (hb.frame (· ∈ p ++ [])), fun _ => ?_⟩
  · rw [hfn']; exact hres _ _ _
  · rw [hfn']; exact hargs _ hold
  · rw [hfn']; exact hvars _
  · rw [List.append_nil] at hx; exact Or.inr (.inl hx)
  · refine ⟨ok_one hr rfl (okWide_bool_mk hu _), _, _, ([] ++ p) ++ [], ⟨[] ++ p, [], trodAll_append (hargs _ (fun _ _ => rfl)) (hres _ _ _), hvars _, rfl, ?_, ?_⟩, ?_⟩
    · intro b off hx
      have hin : MemPlace.cell b off ∈ p := by simpa using hx
      rw [hb.frozen (p := ⟨b, off, none⟩) (hlt _ hin)]
      exact hfz b off (by simpa using hin)
    · intro ha
      simpa using hnd ha
    · intro x hx _
      simpa using hx
/-- A slice of int64 (or of int: the numbers are of the same kind), opened. -/
theorem open_slc {H : Type} {enc : TypeId × Value → H} {P : Program} {w : World} {base : Nat} {spare : Nat → Bool} {held : Bool} {r : Reach} {b0 : Nat} {t e : TypeId} {v : Value} {d : DataW H} {ps : List MemPlace} (ht : P.underlying t = some (.slice e)) (he : P.underlying e = some (.int .i64)) (hc : P.cellsOf e = 1)
    (hval : Value.okWide P w r b0 t v) (hd : DataW.Trod enc P w base spare held t v d ps) :
    ∃ p n cp L, v = .slice p n cp ∧ Slc w p n L ∧ n ≤ 9223372036854775807 ∧ ∀ i, -9223372036854775808 ≤ L i ∧ L i ≤ 9223372036854775807 := by
  obtain ⟨a, n, cp, rfl⟩ := okWide_slice ht hval
  obtain ⟨fuel, hf⟩ := hd
  rcases open_ints ht he hc hf with ⟨h0, _⟩ | ⟨ad, len, cap, zs, h0, _, hlc, hcm, hlen, _, hcell, hwf⟩
  · simp [Value.cells] at h0
    obtain ⟨rfl, rfl, rfl⟩ := h0
    exact ⟨none, 0, 0, fun _ => 0, rfl, fun i hi => by omega, by omega, fun _ => ⟨by show (-9223372036854775808 : Int) ≤ 0; omega, by show (0 : Int) ≤ 9223372036854775807; omega⟩⟩
  · simp [Value.cells] at h0
    obtain ⟨rfl, rfl, rfl⟩ := h0
    have hz : n ≤ zs.length := by rw [hlen]; split <;> omega
    refine ⟨some ad, n, cp, fun i => zs.getD i 0, rfl, fun i hi => ?_, by unfold maxLen at hcm; omega, fun i => ?_⟩
    · obtain ⟨b, off, rfl, hb⟩ := ints_at hcell (by omega)
      exact ⟨b, off, rfl, hb i (by omega)⟩
    · by_cases hi : i < zs.length
      · have := Go.bounds_i64 (hwf _ (List.getElem_mem hi))
        simpa [hi] using this
      · simp [List.getElem?_eq_none (by omega : zs.length ≤ i)]
section
variable {H : Type} {enc : TypeId × Value → H} {w : World} {base : Nat} {spare : Nat → Bool} {held : Bool}
theorem cells_of_size {P : Program} {t : TypeId} {n : Nat} (h : (P.info? t).map (·.size) = some n) : P.cellsOf t = n := by
  unfold Program.cellsOf
  cases e : P.info? t with
  | none => rw [e] at h; cases h
  | some i => rw [e] at h; simpa using h
theorem cells_i64 : Try.prog.cellsOf 2 = 1 := cells_of_size (by kernel_rfl)
theorem cells_col : Try.prog.cellsOf 23 = 24 := cells_of_size (by kernel_rfl)
theorem cells_int : Try.prog.cellsOf 3 = 1 := cells_of_size (by kernel_rfl)
theorem cells_row : Try.prog.cellsOf 40 = 24 := cells_of_size (by kernel_rfl)
theorem cells_u : Try.prog.cellsOf 22 = 276 := cells_of_size (by kernel_rfl)
theorem cells_cov : Try.prog.cellsOf 25 = 300 := cells_of_size (by kernel_rfl)
theorem cells_mat : Try.prog.cellsOf 27 = 576 := cells_of_size (by kernel_rfl)
theorem ints_i64 : Ints enc Try.prog w base spare held 2 := ints_int Try.underlying2
theorem ints_col : Ints enc Try.prog w base spare held 23 := ints_array (n := 24) (m := 1) Try.underlying23 cells_col cells_i64 ints_i64
theorem ints_row : Ints enc Try.prog w base spare held 40 := ints_array (n := 24) (m := 1) Try.underlying40 cells_row cells_i64 ints_i64
theorem ints_u : Ints enc Try.prog w base spare held 22 := ints_array (n := 276) (m := 1) Try.underlying22 cells_u cells_i64 ints_i64
theorem ints_cov : Ints enc Try.prog w base spare held 25 := ints_struct2 (a := 276) (b := 24) Try.underlying25 cells_cov rfl rfl cells_u cells_col ints_u ints_col
theorem ints_mat : Ints enc Try.prog w base spare held 27 := ints_array (n := 24) (m := 24) Try.underlying27 cells_mat cells_col ints_col
theorem own_knob : ownKnob Try.prog.godebug = none := by kernel_rfl
theorem laid_out : laidOutB Try.prog = true := by kernel_rfl
end
end Go.Proofs.Ytokcdlcmamdloaa
