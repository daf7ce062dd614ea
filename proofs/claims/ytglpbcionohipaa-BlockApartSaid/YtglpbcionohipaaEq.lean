/- The equality of two covariances, as numbers. -/
import Derived.Test.YtglpbcionohipaaArr
import Derived.ChangeKeysEq
import Derived.Laws.StructEq
namespace Go.Proofs.Ytglpbcionohipaa
open Go
set_option maxRecDepth 100000
theorem plain_int {P : Program} {e : TypeId} (h : P.underlying e = some (.int .i64)) : P.plainKey e = true := by simp [Program.plainKey, h]
theorem run_eqItems_int {P : Program} {w : World} (d : Nat) {e : TypeId} (h : P.underlying e = some (.int .i64)) (n : Nat) (f g : Nat → Int) : ∀ (is : List Nat), (∀ i ∈ is, i < n) →
    (Op.eqItems (d + 1) e 1 (arrv n f) (arrv n g) is).run P w = .ok (is.all fun i => f i == g i) w
  | [], _ => by simp [Op.eqItems]
  | i :: is, hi => by
    have hin := hi i (by simp)
    simp only [Op.eqItems, Sem.run_bind, Nat.mul_one, run_part_plain w (plain_int h) (arrv_get (f := f) hin), run_part_plain w (plain_int h) (arrv_get (f := g) hin), Result.andThen_ok, run_equalIn_int w d e .i64 .i64 _ _ h]
    by_cases e1 : f i = g i
    · simp only [e1, beq_self_eq_true, Bool.not_true, Bool.false_eq_true, if_false, List.all_cons, Bool.true_and]
      exact run_eqItems_int d h n f g is fun j hj => hi j (by simp [hj])
    · have : (f i == g i) = false := by simpa using e1
      simp [this]
def eqB (n : Nat) (f g : Nat → Int) : Bool := (List.range n).all fun i => f i == g i
theorem eqB_iff {n : Nat} {f g : Nat → Int} : eqB n f g = true ↔ ∀ i, i < n → f i = g i := by simp [eqB]
theorem run_equalIn_vec {P : Program} {w : World} (d : Nat) {t e : TypeId} {n : Nat} (hu : P.underlying t = some (.array n e)) (h : P.underlying e = some (.int .i64)) (hi : P.cellsOf e = 1) {i : TypeInfo} (hi2 : P.info? e = some i) (f g : Nat → Int) :
    (Op.equalIn (d + 2) t (.agg (arrv n f)) (.agg (arrv n g))).run P w = .ok (eqB n f g) w := by
  rw [show d + 2 = (d + 1) + 1 from rfl, run_equalIn_array w (d + 1) _ _ hu hi2, hi]
  exact run_eqItems_int d h n f g _ fun i hi => by simpa using hi
theorem arrv_extract (n a b : Nat) (f : Nat → Int) (h : a + b ≤ n) : (arrv n f).extract a (a + b) = arrv b fun i => f (a + i) := by
  apply Array.ext_getElem?
  intro i
  by_cases hi : i < b
  · rw [arrv_get hi, Array.getElem?_extract, if_pos (by rw [arrv_size]; omega), arrv_get (by omega)]
  · rw [Array.getElem?_eq_none (xs := arrv b _) (by rw [arrv_size]; omega), Array.getElem?_eq_none (by simp [arrv_size]; omega)]
def covB (f g : Nat → Int) : Bool := eqB 276 f g && eqB 24 (fun i => f (276 + i)) (fun i => g (276 + i))
theorem covB_iff {f g : Nat → Int} : covB f g = true ↔ ∀ i, i < 300 → f i = g i := by
  unfold covB
  rw [Bool.and_eq_true, eqB_iff, eqB_iff]
  constructor
  · rintro ⟨h1, h2⟩ i hi
    by_cases h : i < 276
    · exact h1 i h
    · have := h2 (i - 276) (by omega); rwa [show 276 + (i - 276) = i by omega] at this
  · intro h
    exact ⟨fun i hi => h i (by omega), fun i hi => h _ (by omega)⟩
theorem run_part_vec {P : Program} {w : World} {t e : TypeId} {n m : Nat} {i : TypeInfo} (hu : P.underlying t = some (.array n e)) (hi : P.info? t = some i) (hn : i.size = n) (a : Nat) (f : Nat → Int) (h : a + n ≤ m) :
    (part t (arrv m f) a).run P w = .ok (.agg (arrv n fun i => f (a + i))) w := by
  have hagg : (isAgg t).run P w = .ok true w := by
    unfold isAgg
    rw [Sem.run_bind, run_underlying hu w]
    rfl
  have hs : P.cellsOf t = n := by simp [Program.cellsOf, hi, hn]
  unfold part
  simp only [Sem.run_bind, hagg, Result.andThen_ok, if_true, run_sizeOf w hi, hs, Sem.run_pure]
  rw [arrv_extract m a n f h]
theorem run_eqFields_cons {P : Program} {w : World} {d : Nat} {xs ys : Array Value} {f : Field} {fs : List Field} {a b : Value} {r r' : Bool} (hn : f.name ≠ "_") (ha : (part f.type xs f.offset).run P w = .ok a w)
    (hb : (part f.type ys f.offset).run P w = .ok b w) (hr : (Op.equalIn d f.type a b).run P w = .ok r w) (h : (Op.eqFields d xs ys fs).run P w = .ok r' w) : (Op.eqFields d xs ys (f :: fs)).run P w = .ok (r && r') w := by
  simp only [Op.eqFields, if_pos hn, Sem.run_bind, ha, hb, hr, Result.andThen_ok]
  cases r
  · simp
  · simp [h]
theorem fieldsOf_of {P : Program} {t : TypeId} {fs : Array Field} (h : P.underlying t = some (.struct fs)) : P.fieldsOf t = fs := by simp [Program.fieldsOf, h]
theorem run_equalIn_cov (d : Nat) (w : World) (f g : Nat → Int) : (Op.equalIn (d + 3) 29 (.agg (arrv 300 f)) (.agg (arrv 300 g))).run Try.prog w = .ok (covB f g) w := by
  have hf := fieldsOf_of Try.underlying29
  rw [show d + 3 = (d + 2) + 1 from rfl, run_equalIn_struct w (d + 2) _ _ _ (by rw [hf]; exact Try.underlying29) (by kernel_rfl), hf]
  have hi22 : ∃ i, Try.prog.info? 26 = some i ∧ i.size = 276 := by
    have h : (Try.prog.info? 26).map (·.size) = some 276 := by kernel_rfl
    cases e : Try.prog.info? 26 with
    | none => rw [e] at h; cases h
    | some i => rw [e] at h; exact ⟨i, rfl, by simpa using h⟩
  have hi23 : ∃ i, Try.prog.info? 27 = some i ∧ i.size = 24 := by
    have h : (Try.prog.info? 27).map (·.size) = some 24 := by kernel_rfl
    cases e : Try.prog.info? 27 with
    | none => rw [e] at h; cases h
    | some i => rw [e] at h; exact ⟨i, rfl, by simpa using h⟩
  have hi2 : ∃ i, Try.prog.info? 2 = some i ∧ i.size = 1 := by
    have h : (Try.prog.info? 2).map (·.size) = some 1 := by kernel_rfl
    cases e : Try.prog.info? 2 with
    | none => rw [e] at h; cases h
    | some i => rw [e] at h; exact ⟨i, rfl, by simpa using h⟩
  obtain ⟨i22, h22, s22⟩ := hi22
  obtain ⟨i23, h23, s23⟩ := hi23
  obtain ⟨i2, h2, s2⟩ := hi2
  have hc : Try.prog.cellsOf 2 = 1 := by simp [Program.cellsOf, h2, s2]
  have p0 := fun f => run_part_vec (w := w) (m := 300) Try.underlying26 h22 s22 0 f (by omega)
  have p1 := fun f => run_part_vec (w := w) (m := 300) Try.underlying27 h23 s23 276 f (by omega)
  have q0 := fun f g => run_equalIn_vec (w := w) d Try.underlying26 Try.underlying2 hc h2 f g
  have q1 := fun f g => run_equalIn_vec (w := w) d Try.underlying27 Try.underlying2 hc h2 f g
  have z : (Op.eqFields (d + 2) (arrv 300 f) (arrv 300 g) []).run Try.prog w = .ok true w := by simp [Op.eqFields]
  have e1 := run_eqFields_cons (f := ⟨"D", 27, 276, false, "", "", 2208⟩) (by decide) (p1 f) (p1 g) (q1 _ _) z
  have e0 := run_eqFields_cons (f := ⟨"U", 26, 0, false, "", "", 0⟩) (by decide) (p0 f) (p0 g) (q0 _ _) e1
  refine Eq.trans e0 ?_
  simp [covB]
theorem run_equal_cov (w : World) (f g : Nat → Int) : (Op.equal 29 (.agg (arrv 300 f)) (.agg (arrv 300 g))).run Try.prog w = .ok (covB f g) w := run_equalIn_cov 9997 w f g
/-- The same in the shape that the walk leaves. -/
theorem run_eq_U (w : World) (f g : Nat → Int) : (Op.equalIn 9999 26 (.agg ((arrv 300 f).extract 0 276)) (.agg ((arrv 300 g).extract 0 276))).run Try.prog w = .ok (eqB 276 f g) w := by
  have h : (Try.prog.info? 2).map (·.size) = some 1 := by kernel_rfl
  obtain ⟨i, h2, s2⟩ : ∃ i, Try.prog.info? 2 = some i ∧ i.size = 1 := by
    cases e : Try.prog.info? 2 with
    | none => rw [e] at h; cases h
    | some i => rw [e] at h; exact ⟨i, rfl, by simpa using h⟩
  have e0 := fun f => arrv_extract 300 0 276 f (by omega)
  rw [e0 f, e0 g]
  refine (run_equalIn_vec (w := w) 9997 Try.underlying26 Try.underlying2 (by simp [Program.cellsOf, h2, s2]) h2 _ _).trans ?_
  simp
theorem run_eq_D (w : World) (f g : Nat → Int) : (Op.equalIn 9999 27 (.agg ((arrv 300 f).extract 276 300)) (.agg ((arrv 300 g).extract 276 300))).run Try.prog w = .ok (eqB 24 (fun i => f (276 + i)) (fun i => g (276 + i))) w := by
  have h : (Try.prog.info? 2).map (·.size) = some 1 := by kernel_rfl
  obtain ⟨i, h2, s2⟩ : ∃ i, Try.prog.info? 2 = some i ∧ i.size = 1 := by
    cases e : Try.prog.info? 2 with
    | none => rw [e] at h; cases h
    | some i => rw [e] at h; exact ⟨i, rfl, by simpa using h⟩
  have e0 := fun f => arrv_extract 300 276 24 f (by omega)
  rw [e0 f, e0 g]
  exact run_equalIn_vec (w := w) 9997 Try.underlying27 Try.underlying2 (by simp [Program.cellsOf, h2, s2]) h2 _ _
theorem covB_self (f : Nat → Int) : covB f f = true := covB_iff.2 fun _ _ => rfl
open Go in
/-- '==' of two covariances, at the operation. -/
theorem run_op_eqlCov {o : Oper} {ev : Operand → Value} {w : World} (x y : Operand) (ho : o.op = .binOp .eql 29 x y 29) {f g : Nat → Int} (hx : ev x = .agg (arrv 300 f)) (hy : ev y = .agg (arrv 300 g)) {b : Bool} (hb : covB f g = b) :
    (execOp ev o).run Try.prog w = .ok (.value (.bool b)) w := by
  have e := run_equal_cov w f g
  have hG : Try.prog.eqGuardType Try.prog.depth 29 = false := by kernel_rfl
  unfold execOp
  simp only [ho, hx, hy, eqGuard, binOp, Sem.run_bind, Sem.run_pure, Result.andThen_ok]
  simp [hG, e, hb, go_sem]
end Go.Proofs.Ytglpbcionohipaa
