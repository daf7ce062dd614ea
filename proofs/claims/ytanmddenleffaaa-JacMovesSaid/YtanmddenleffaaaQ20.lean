/- Contracts of the program's functions and plain laws, part 20: they hold for all arguments. -/
import Derived.Test.YtanmddenleffaaaQ13
import Derived.Test.YtanmddenleffaaaQ14
import Derived.Test.YtanmddenleffaaaQ19
import Derived.Test.YtanmddenleffaaaQ15
import Derived.Test.YtanmddenleffaaaQ08
import Derived.Test.YtanmddenleffaaaQ04
import Derived.OpenShut
import Derived.ProofKit
import Derived.Carry
/- Plain laws of jac: rows that go on by themselves; without time the matrix is One; noise grows with time. No program beyond the numbers' names. -/
namespace Go.Proofs.Ytanmddenleffaaa
theorem jc_m0 (a : Int) : mulV a 0 30 = 0 := by
  unfold mulV
  rw [if_neg (by decide), satV_0, Int.mul_zero]
  decide
theorem jc_sec0 : secV 0 = 0 := by decide +kernel
theorem jc_ex0 : ∀ i, i < 4 → exV (fun _ => 0) i = if i = 0 then 1073741824 else 0 := by decide +kernel
/-- The rows of the place, the biases, the fields, the wind. -/
theorem jof_rows (S I : Nat → Int) {r k : Nat} (hr : 7 ≤ r) (hr2 : r < 24) (hk : k < 24) : jofF S I (r * 24 + k) = if r < 10 ∧ k = r - 3 then secV (I 1) else if r = k then 1073741824 else 0 := by
  unfold jofF joM
  rw [show (r * 24 + k) / 24 = r by omega, show (r * 24 + k) % 24 = k by omega, if_neg (by omega), if_neg (by omega)]
  by_cases h : r < 10 ∧ k = r - 3
  · rw [if_pos h, if_pos h, (spF_at _ _).1]
  · rw [if_neg h, if_neg h, oneF_at hk]
theorem tuF_0 (Q : Nat → Int) {A : Nat → Int} (hA : ∀ i, i < 3 → A i = 0) {x : Nat} (hx : x < 12) : tuF Q A x = 0 := by
  have z : ∀ i, i < 3 → satF A i = 0 := fun i hi => by unfold satF; rw [hA i hi]; exact satV_0
  obtain ⟨B, hB⟩ : ∃ B, satF A = B := ⟨_, rfl⟩
  rw [hB] at z
  have a2 : ∀ n, ap2 zF n 0 = zF := fun n => by
    funext i; unfold ap2 upd zF; (repeat' split) <;> rfl
  have f : ∀ r, r < 3 → fiB B r = zF := fun r hr => by unfold fiB; rw [z r hr, z _ (by omega), z _ (by omega), a2, a2, a2]
  have s2 : ∀ r i, r < 3 → i < 3 → s2B B r i = zF := fun r i hr hi => by unfold s2B; rw [z r hr, z i hi, a2, a2]
  have s5 : ∀ r i n, r < 3 → i < 3 → n ≤ 3 → s5B B r i n = zF := fun r i n hr hi => by
    induction n with
    | zero => exact fun _ => s2 r i hr hi
    | succ n ih => intro hn; unfold s5B; rw [ih (by omega), z n (by omega), a2]
  have s : ∀ r i, r < 3 → i < 3 → suB B r i = zF := fun r i hr hi => by
    unfold suB
    rw [s5 r i 3 hr hi (by decide), s2 r i hr hi, z _ (by omega), z _ (by omega), a2]
    (repeat' split) <;> rfl
  have d : ∀ A n, dotV 30 A zF n = 0 := fun A n => by
    unfold dotV
    rw [if_neg (by decide), dotS_no (B := zF) fun _ _ => .inr rfl]
    decide
  unfold tuF tnF
  rw [hB]
  by_cases h : x % 4 = 0
  · rw [if_pos h, f _ (by omega), d]
  · rw [if_neg h, s _ _ (by omega) (by omega), d]
/-- Without time, without a turn. -/
theorem jof_still (S : Nat → Int) : ∀ x, x < 576 → jofF S (fun _ => 0) x = oneF x := fun x hx => by
  obtain ⟨h0, hv, ht, _⟩ := spF_at (keepF S) (fun _ => 0)
  have e0 : spF (keepF S) (fun _ => 0) 0 = 0 := by rw [h0]; exact jc_sec0
  have ev : ∀ k, k < 3 → spF (keepF S) (fun _ => 0) (4 + k) = 0 := fun k hk => by
    rw [hv k hk]; unfold spA; rw [jc_sec0, jc_m0]; show subV 0 0 = 0; decide
  have ez : spA (keepF S) (fun _ => 0) 10 2 (secV ((fun _ => (0 : Int)) 1)) = fun _ => 0 := by
    funext i; unfold spA; rw [show secV ((fun _ => (0 : Int)) 1) = 0 from jc_sec0, jc_m0]; show subV 0 0 = 0; decide
  have et : ∀ k, k < 4 → spF (keepF S) (fun _ => 0) (7 + k) = if k = 0 then 1073741824 else 0 := fun k hk => by
    rw [ht k hk, ez]; exact jc_ex0 k hk
  obtain ⟨r, k, hr, hk, rfl⟩ : ∃ r k, r < 24 ∧ k < 24 ∧ x = r * 24 + k := ⟨x / 24, x % 24, by omega, by omega, by omega⟩
  unfold jofF joM
  rw [show (r * 24 + k) / 24 = r by omega, show (r * 24 + k) % 24 = k by omega, oneF_at hk, e0]
  by_cases h1 : r < 4
  · rw [if_pos h1]
    by_cases h2 : k < 4
    · rw [if_pos h2]
      unfold joT
      simp only [et 0 (by decide), et 1 (by decide), et 2 (by decide), et 3 (by decide)]
      rcases (show r = 0 ∨ r = 1 ∨ r = 2 ∨ r = 3 by omega) with rfl | rfl | rfl | rfl <;> rcases (show k = 0 ∨ k = 1 ∨ k = 2 ∨ k = 3 by omega) with rfl | rfl | rfl | rfl <;> rfl
    · rw [if_neg h2]
      by_cases h3 : 10 ≤ k ∧ k < 13
      · rw [if_pos h3, show mulV 0 536870912 30 = 0 from by decide, if_neg (by omega)]
        unfold mulV
        rw [if_neg (by decide), satV_0, Int.zero_mul]; decide
      · rw [if_neg h3]
  · rw [if_neg h1]
    by_cases h2 : r < 7
    · rw [if_pos h2]
      by_cases h3 : k < 4
      · rw [if_pos h3, tuF_0 (keepF S) ev (by omega), if_neg (by omega)]
      · rw [if_neg h3]
        by_cases h4 : 13 ≤ k ∧ k < 16
        · rw [if_pos h4, jc_m0, if_neg (by omega)]; rfl
        · rw [if_neg h4]
    · rw [if_neg h2]
      by_cases h3 : r < 10 ∧ k = r - 3
      · rw [if_pos h3, if_neg (by omega)]
      · rw [if_neg h3]
theorem jc_rdiv_mono {x y d : Int} (hd : 0 < d) (h : x ≤ y) : rdiv x d ≤ rdiv y d := by
  have a := rdiv_err (x := x) hd
  have b := rdiv_err (x := y) hd
  obtain ⟨q, hq⟩ : ∃ q, rdiv x d = q := ⟨_, rfl⟩
  obtain ⟨s, hs⟩ : ∃ q, rdiv y d = q := ⟨_, rfl⟩
  rw [hq] at a
  rw [hs] at b
  rw [hq, hs]
  by_cases e : x = y
  · rw [← e, hq] at hs; omega
  · refine Decidable.byContradiction fun hc => ?_
    have := Int.mul_le_mul_of_nonneg_left (show s + 1 ≤ q by omega) (show 0 ≤ d by omega)
    rw [Int.mul_add, Int.mul_one] at this
    omega
theorem satV_mono {a b : Int} (h : a ≤ b) : satV a ≤ satV b := by
  unfold satV clampV; repeat' split
  all_goals omega
theorem qV_mono {a b : Int} (h : a ≤ b) : qV a ≤ qV b := by
  unfold qV clampV; repeat' split
  all_goals omega
theorem qV_neg {a : Int} (h : a ≤ 0) : qV a = 0 := by
  unfold qV clampV; repeat' split
  all_goals omega
theorem qV_nn (a : Int) : 0 ≤ qV a := by
  unfold qV clampV; repeat' split
  all_goals omega
theorem jc_sec {u v : Int} (h0 : 0 ≤ u) (h : u ≤ v) (h1 : v ≤ 1000000000) : 0 ≤ secV u ∧ secV u ≤ secV v := by
  unfold secV mdivV byV
  rw [show satV 1000000 = 1000000 from by decide, show satV 1073741824 = 1073741824 from by decide, satV_id (a := u) (by omega) (by omega), satV_id (a := v) (by omega) (by omega), if_neg (by decide), if_neg (by decide)]
  have m := jc_rdiv_mono (d := 1000000) (by decide) (show u * 1073741824 ≤ v * 1073741824 by omega)
  have n := jc_rdiv_mono (x := 0) (y := u * 1073741824) (d := 1000000) (by decide) (by omega)
  rw [show rdiv 0 1000000 = 0 from by decide] at n
  have a := satV_mono m
  have b := satV_mono n
  rw [satV_0] at b
  exact ⟨b, a⟩
theorem mulV_mono {n s t : Int} (hn : 0 ≤ n) (h : s ≤ t) : mulV n s 30 ≤ mulV n t 30 := by
  unfold mulV
  rw [if_neg (by decide), if_neg (by decide)]
  refine satV_mono ?_
  unfold rsh
  refine jc_rdiv_mono (by decide) (Int.mul_le_mul_of_nonneg_left (satV_mono h) ?_)
  have := satV_mono hn
  rw [satV_0] at this
  exact this
theorem mulV_neg_nn {n s : Int} (hn : n < 0) (h : 0 ≤ s) : mulV n s 30 ≤ 0 := by
  unfold mulV
  rw [if_neg (by decide), ← satV_0]
  refine satV_mono ?_
  have hs := satV_mono h
  have hn2 := satV_mono (show n ≤ 0 by omega)
  rw [satV_0] at hs hn2
  have := jc_rdiv_mono (d := 2 ^ 30) (by decide) (Int.mul_nonpos_of_nonpos_of_nonneg hn2 hs)
  rw [show rdiv 0 (2 ^ 30) = 0 from by decide] at this
  exact this
/-- More time, no less noise. -/
theorem noise_law (N : Nat → Int) {us more : Int} (h0 : 0 ≤ us) (h1 : us ≤ 100000) (h2 : 0 ≤ more) (h3 : more ≤ 100000) (k : Nat) :
    (0 ≤ N k → noF N us k ≤ noF N (us + more) k ∧ 0 ≤ noF N us k) ∧ (N k < 0 → noF N us k = 0) := by
  have s := jc_sec h0 (show us ≤ us + more by omega) (by omega)
  unfold noF
  exact ⟨fun hn => ⟨qV_mono (mulV_mono hn s.2), qV_nn _⟩, fun hn => qV_neg (mulV_neg_nn hn s.1)⟩
end Go.Proofs.Ytanmddenleffaaa
/- The equality of two matrices of 24 rows, as numbers. -/
namespace Go.Proofs.Ytanmddenleffaaa
open Go
set_option maxRecDepth 100000
theorem run_part_rowM {P : Program} {w : World} {t e : TypeId} {n m : Nat} {i : TypeInfo} (hu : P.underlying t = some (.array n e)) (hi : P.info? t = some i) (hn : i.size = n) (a : Nat) (f : Nat → Int) (h : a + n ≤ m) :
    (part t (arrv m f) a).run P w = .ok (.agg (arrv n fun i => f (a + i))) w := by
  have hagg : (isAgg t).run P w = .ok true w := by
    unfold isAgg
    rw [Sem.run_bind, run_underlying hu w]
    rfl
  have hs : P.cellsOf t = n := by simp [Program.cellsOf, hi, hn]
  unfold part
  simp only [Sem.run_bind, hagg, Result.andThen_ok, if_true, run_sizeOf w hi, hs, Sem.run_pure]
  rw [arrv_extract m a n f h]
def eqM (f g : Nat → Int) : Bool := (List.range 24).all fun i => eqB 24 (fun k => f (i * 24 + k)) (fun k => g (i * 24 + k))
theorem eqM_iff {f g : Nat → Int} : eqM f g = true ↔ ∀ x, x < 576 → f x = g x := by
  simp only [eqM, List.all_eq_true, List.mem_range, eqB_iff]
  exact ⟨fun h x hx => by have := h (x / 24) (by omega) (x % 24) (by omega); rwa [show x / 24 * 24 + x % 24 = x by omega] at this, fun h i hi k hk => h _ (by omega)⟩
theorem run_eqItems_rows {P : Program} {w : World} {d : Nat} {e : TypeId} (hp : ∀ (f : Nat → Int) i, i < 24 → (part e (arrv 576 f) (i * 24)).run P w = .ok (.agg (arrv 24 fun k => f (i * 24 + k))) w)
    (hq : ∀ f g : Nat → Int, (Op.equalIn d e (.agg (arrv 24 f)) (.agg (arrv 24 g))).run P w = .ok (eqB 24 f g) w) (f g : Nat → Int) : ∀ (is : List Nat), (∀ i ∈ is, i < 24) →
    (Op.eqItems d e 24 (arrv 576 f) (arrv 576 g) is).run P w = .ok (is.all fun i => eqB 24 (fun k => f (i * 24 + k)) (fun k => g (i * 24 + k))) w
  | [], _ => by simp [Op.eqItems]
  | i :: is, hi => by
    have hin := hi i (by simp)
    simp only [Op.eqItems, Sem.run_bind, hp f i hin, hp g i hin, hq, Result.andThen_ok]
    cases e : eqB 24 (fun k => f (i * 24 + k)) (fun k => g (i * 24 + k)) with
    | true =>
      simp only [Bool.not_true, Bool.false_eq_true, if_false, List.all_cons, e, Bool.true_and]
      exact run_eqItems_rows hp hq f g is fun j hj => hi j (by simp [hj])
    | false => simp only [Bool.not_false, if_true, List.all_cons, e, Bool.false_and, Sem.run_pure]
theorem run_equal_mat (w : World) (f g : Nat → Int) : (Op.equal 28 (.agg (arrv 576 f)) (.agg (arrv 576 g))).run Try.prog w = .ok (eqM f g) w := by
  have hi23 : ∃ i, Try.prog.info? 26 = some i ∧ i.size = 24 := by
    have h : (Try.prog.info? 26).map (·.size) = some 24 := by kernel_rfl
    cases e : Try.prog.info? 26 with
    | none => rw [e] at h; cases h
    | some i => rw [e] at h; exact ⟨i, rfl, by simpa using h⟩
  have hi2 : ∃ i, Try.prog.info? 2 = some i ∧ i.size = 1 := by
    have h : (Try.prog.info? 2).map (·.size) = some 1 := by kernel_rfl
    cases e : Try.prog.info? 2 with
    | none => rw [e] at h; cases h
    | some i => rw [e] at h; exact ⟨i, rfl, by simpa using h⟩
  obtain ⟨i23, h23, s23⟩ := hi23
  obtain ⟨i2, h2, s2⟩ := hi2
  have hc : Try.prog.cellsOf 2 = 1 := by simp [Program.cellsOf, h2, s2]
  have hc2 : Try.prog.cellsOf 26 = 24 := by simp [Program.cellsOf, h23, s23]
  show (Op.equalIn (9999 + 1) 28 (.agg (arrv 576 f)) (.agg (arrv 576 g))).run Try.prog w = _
  rw [run_equalIn_array w 9999 _ _ Try.underlying28 h23, hc2]
  exact run_eqItems_rows (fun f i hi => run_part_rowM (w := w) (m := 576) Try.underlying26 h23 s23 (i * 24) f (by omega)) (fun f g => run_equalIn_vec (w := w) 9997 Try.underlying26 Try.underlying2 hc h2 f g) f g _ fun i hi => by simpa using hi
/-- '==' of two matrices, at the operation. -/
theorem run_op_eqlMat {o : Oper} {ev : Operand → Value} {w : World} (x y : Operand) (ho : o.op = .binOp .eql 28 x y 28) {f g : Nat → Int} (hx : ev x = .agg (arrv 576 f)) (hy : ev y = .agg (arrv 576 g)) {b : Bool} (hb : eqM f g = b) :
    (execOp ev o).run Try.prog w = .ok (.value (.bool b)) w := by
  have e := run_equal_mat w f g
  have hG : Try.prog.eqGuardType Try.prog.depth 28 = false := by kernel_rfl
  unfold execOp
  simp only [ho, hx, hy, eqGuard, binOp, Sem.run_bind, Sem.run_pure, Result.andThen_ok]
  simp [hG, e, hb, go_sem]
end Go.Proofs.Ytanmddenleffaaa
/- Arguments that are arrays of int64 (or structs of such): opened as numbers; a slice of int64 too. Of no one program. -/
namespace Go.Proofs.Ytanmddenleffaaa
open Go.RowKit Go.ChangeShapes
def AllInt (cs : List Value) : Prop := ∀ v, v ∈ cs → ∃ z, v = .int .i64 z ∧ (Lit.int .i64 z).wf = true
section
variable {H : Type} {enc : TypeId × Value → H} {P : Program} {w : World} {base : Nat} {spare : Nat → Bool} {held : Bool}
/-- What reads as t is int64 numbers alone. -/
def Ints (enc : TypeId × Value → H) (P : Program) (w : World) (base : Nat) (spare : Nat → Bool) (held : Bool) (t : TypeId) : Prop :=
  ∀ fuel cs x, DataW.trod enc P w base spare held fuel t cs = some x → AllInt cs ∧ x.2 = []
theorem ints_int {t : TypeId} (hu : P.underlying t = some (.int .i64)) : Ints enc P w base spare held t := by
  intro fuel cs x h
  obtain ⟨n, h1, h2, h3⟩ := DataW.trod_int hu h
  subst h1
  refine ⟨fun v hv => ?_, ?_⟩
  · rw [List.mem_singleton] at hv; exact ⟨n, hv, h3⟩
  · rw [h2]
theorem ints_array {t e : TypeId} {n m : Nat} (hu : P.underlying t = some (.array n e)) (hc : P.cellsOf t = n * m) (hm : P.cellsOf e = m) (he : Ints enc P w base spare held e) : Ints enc P w base spare held t := by
  intro fuel cs x h
  obtain ⟨xs, k, rfl, rfl, hl, hx, hi⟩ := DataW.trod_array hu h
  rw [hc] at hl
  rw [hm] at hi
  refine ⟨fun v hv => ?_, ?_⟩
  · obtain ⟨q, hq, rfl⟩ := List.getElem_of_mem hv
    have hm0 : 0 < m := by
      rcases Nat.eq_zero_or_pos m with h0 | h0
      · subst h0; omega
      · exact h0
    have hqm : q / m < n := by rw [Nat.div_lt_iff_lt_mul hm0]; omega
    have hh := hi (q / m) hqm
    rw [List.getElem?_eq_getElem (by omega)] at hh
    refine (he _ _ _ hh).1 _ ?_
    rw [List.mem_iff_getElem?]
    refine ⟨q % m, ?_⟩
    rw [List.getElem?_take_of_lt (Nat.mod_lt _ hm0), List.getElem?_drop, Nat.mul_comm, Nat.div_add_mod]
    exact List.getElem?_eq_getElem hq
  · show xs.flatMap (·.2) = []
    rw [List.flatMap_eq_nil_iff]
    intro y hy
    obtain ⟨q, hq, rfl⟩ := List.getElem_of_mem hy
    have hh := hi q (by omega)
    rw [List.getElem?_eq_getElem hq] at hh
    exact (he _ _ _ hh).2
/-- A struct whose fields cover its cells. -/
theorem ints_struct {t : TypeId} {fs : Array Field} {n : Nat} (hu : P.underlying t = some (.struct fs)) (hc : P.cellsOf t = n)
    (hcov : ∀ q, q < n → ∃ (j : Nat) (f : Field), fs[j]? = some f ∧ f.offset ≤ q ∧ q < f.offset + P.cellsOf f.type)
    (hI : ∀ (j : Nat) (f : Field), fs[j]? = some f → Ints enc P w base spare held f.type) : Ints enc P w base spare held t := by
  intro fuel cs x h
  obtain ⟨xs, k, rfl, rfl, hl, hx, hi⟩ := DataW.trod_struct hu h
  rw [hc] at hl
  refine ⟨fun v hv => ?_, ?_⟩
  · obtain ⟨q, hq, rfl⟩ := List.getElem_of_mem hv
    obtain ⟨j, f, hj, h1, h2⟩ := hcov q (by omega)
    have hjl : j < xs.length := by rw [hx]; exact (Array.getElem?_eq_some_iff.1 hj).1
    have g := hi j f hj
    rw [List.getElem?_eq_getElem hjl] at g
    refine (hI j f hj _ _ _ g).1 _ ?_
    rw [List.mem_iff_getElem?]
    refine ⟨q - f.offset, ?_⟩
    rw [List.getElem?_take_of_lt (by omega), List.getElem?_drop, show f.offset + (q - f.offset) = q by omega]
    exact List.getElem?_eq_getElem hq
  · show xs.flatMap (·.2) = []
    rw [List.flatMap_eq_nil_iff]
    intro y hy
    obtain ⟨q, hq, rfl⟩ := List.getElem_of_mem hy
    have hq2 : q < fs.size := by rw [← hx]; exact hq
    have g := hi q fs[q] (Array.getElem?_eq_getElem hq2)
    rw [List.getElem?_eq_getElem hq] at g
    exact (hI q _ (Array.getElem?_eq_getElem hq2) _ _ _ g).2
/-- A value of such a type: an aggregate of numbers. -/
theorem open_vec {r : Reach} {b0 n : Nat} {t : TypeId} {v : Value} {d : DataW H} {ps : List MemPlace} (hI : Ints enc P w base spare held t) (hc : P.cellsOf t = n)
    (hu : ∃ u, P.underlying t = some u ∧ (match u with | .struct _ | .array _ _ => true | _ => false) = true) (hval : Value.okWide P w r b0 t v) (hd : DataW.Trod enc P w base spare held t v d ps) :
    ∃ f : Nat → Int, v = .agg (arrv n f) ∧ (∀ i, -9223372036854775808 ≤ f i ∧ f i ≤ 9223372036854775807) ∧ ps = [] := by
  obtain ⟨u, hu1, hu2⟩ := hu
  have hv : ∃ cs, v = .agg cs ∧ cs.size = P.cellsOf t := by
    unfold Value.okWide at hval
    rw [hu1] at hval
    cases u <;> simp at hu2 hval <;> (obtain ⟨cs, h1, h2, _⟩ := hval; exact ⟨cs, h1, h2⟩)
  obtain ⟨cs, rfl, hs⟩ := hv
  rw [hc] at hs
  obtain ⟨fuel, hf⟩ := hd
  obtain ⟨hA, hp⟩ := hI _ _ _ hf
  have hA' : ∀ i, i < n → ∃ z, cs[i]? = some (.int .i64 z) ∧ (Lit.int .i64 z).wf = true := by
    intro i hi
    have hm : cs[i]'(by omega) ∈ (Value.agg cs).cells.toList := by simp [Value.cells]
    obtain ⟨z, hz, hw⟩ := hA _ hm
    exact ⟨z, by rw [Array.getElem?_eq_getElem (by omega), hz], hw⟩
  refine ⟨fun i => if h : i < n then Classical.choose (hA' i h) else 0, ?_, fun i => ?_, hp⟩
  · congr 1
    apply Array.ext_getElem?
    intro i
    by_cases hi : i < n
    · rw [arrv_get hi]
      simp only [dif_pos hi]
      exact (Classical.choose_spec (hA' i hi)).1
    · rw [Array.getElem?_eq_none (by omega), Array.getElem?_eq_none (by rw [arrv_size]; omega)]
  · by_cases hi : i < n
    · simp only [dif_pos hi]
      exact Go.bounds_i64 (Classical.choose_spec (hA' i hi)).2
    · simp only [dif_neg hi]; omega
end
end Go.Proofs.Ytanmddenleffaaa
/- The join of a law: arguments that read before the call read behind it, if nothing that was there has turned. -/
namespace Go.Proofs.Ytanmddenleffaaa
open Go.ChangeShapes Go.WideShapes Go.ChangeAt Go.RowKit
theorem trodAll_stays {H : Type} {enc : TypeId × Value → H} {P : Program} (hl : laidOutB P = true) {W W' : World} (hb : Below W.heap.size W W') {sp : Nat → Bool} : ∀ {ts : List TypeId} {vs : List Value} {ds : List (DataW H)} {p : List MemPlace},
    (ts.all fun t => P.readableRec t && decide (t < P.types.size)) = true → DataW.TrodAll enc P W 0 (fun _ => true) true ts vs ds p → (∀ x ∈ p, x.block < W.heap.size) → (∀ x ∈ p, sp x.block = true) → DataW.TrodAll enc P W' 0 sp true ts vs ds p
  | [], [], [], _, _, h, _, _ => h
  | t :: ts, v :: vs, d :: ds, p, ht, h, hlt, hsp => by
    obtain ⟨q, r, h1, h2, rfl⟩ := h
    rw [List.all_cons, Bool.and_eq_true, Bool.and_eq_true, decide_eq_true_eq] at ht
    exact ⟨q, r, WideElems.Trod_stays hl ht.1.1 ht.1.2 h1 (fun x hx => hb.same (hlt x (List.mem_append_left _ hx))) (fun x hx => hsp x (List.mem_append_left _ hx)),
      trodAll_stays hl hb ht.2 h2 (fun x hx => hlt x (List.mem_append_right _ hx)) (fun x hx => hsp x (List.mem_append_right _ hx)), rfl⟩
  | [], _ :: _, _, _, _, h, _, _ => by cases ‹List (DataW H)› <;> exact h.elim
  | [], [], _ :: _, _, _, h, _, _ => h.elim
  | _ :: _, [], _, _, _, h, _, _ => by cases ‹List (DataW H)› <;> exact h.elim
  | _ :: _, _ :: _, [], _, _, h, _, _ => h.elim
/-- What a law owes behind the call: it answers true, and nothing that was there has turned. -/
theorem law_post {H : Type} {enc : TypeId × Value → H} {P : Program} {f : Func} {s : ChangeSpec} {apart fresh handsOn again : Bool} {W W' : World} {args : Array Value} {ds gs : List (DataW H)} {before : List MemPlace} {tb : TypeId}
    (hW : DataW.Whole enc P f.params.toList s.vars apart W args.toList ds gs before) (hv : s.vars = []) (hfn : s.fn H ds = { results := [.lit (.bool true)], args := ds })
    (hu : P.underlying tb = some .bool) (hr : f.resultTypes = #[tb]) (hl : laidOutB P = true) (hts : (f.params.toList.all fun t => P.readableRec t && decide (t < P.types.size)) = true) (hb : Below W.heap.size W W') :
    s.post enc P f apart fresh handsOn again W args (.bool true) W' := by
  have hlt : ∀ x ∈ before, x.block < W.heap.size := fun x hx => hW.lt x hx
  have hW0 := hW
  obtain ⟨p, q, hA, hV, rfl, hfz, hnd⟩ := hW
  rw [hv] at hV
  obtain ⟨rfl, rfl⟩ := trodVars_none hV
  rw [List.append_nil] at hlt
  have hargs : ∀ sp : Nat → Bool, (∀ x ∈ p, sp x.block = true) → DataW.TrodAll enc P W' 0 sp true f.params.toList args.toList ds p := fun sp hsp => trodAll_stays hl hb hts hA hlt hsp
  have hvars : ∀ sp : Nat → Bool, DataW.TrodVars enc P W' sp s.vars ([] : List (DataW H)) [] := fun sp => by rw [hv]; exact rfl
  have hres : ∀ (b : Nat) (sp : Nat → Bool) (hd : Bool), DataW.TrodAll enc P W' b sp hd f.resultTypes.toList ((Value.bool true).resultList f.resultTypes.size) [.lit (.bool true)] [] := fun b sp hd => by
    rw [hr]; exact trodAll_mk1 (shut_bool hu _)
  have hold : ∀ x ∈ p, (fun b => decide (b < W.heap.size)) x.block = true := fun x hx => by simpa using hlt x hx
  have hfn' : s.fn H (ds ++ []) = { results := [.lit (.bool true)], args := ds } := by rw [List.append_nil]; exact hfn
  refine ⟨ds, [], p ++ [], [], p, [], hW0, ?_, ?_, ?_, World.keptBut_mono (fun x hx => ⟨hx, ?_⟩) (hb.frame (· ∈ p ++ [])), fun _ => ?_⟩
  · rw [hfn']; exact hres _ _ _
  · rw [hfn']; exact hargs _ hold
  · rw [hfn']; exact hvars _
  · rw [List.append_nil] at hx; exact Or.inr (.inl hx)
  · refine ⟨ok_one hr rfl (okWide_bool_mk hu _), _, _, ([] ++ p) ++ [], ⟨[] ++ p, [], trodAll_append (hargs _ (fun _ _ => rfl)) (hres _ _ _), hvars _, rfl, ?_, ?_⟩, ?_⟩
    · intro b off hx
      have hin : MemPlace.cell b off ∈ p := by simpa using hx
      rw [hb.frozen (p := ⟨b, off, none⟩) (hlt _ hin)]
      exact hfz b off (by simpa using hin)
    · intro ha
      simpa using hnd ha
    · intro x hx _
      simpa using hx
section
variable {H : Type} {enc : TypeId × Value → H} {w : World} {base : Nat} {spare : Nat → Bool} {held : Bool}
theorem cells_of_size {P : Program} {t : TypeId} {n : Nat} (h : (P.info? t).map (·.size) = some n) : P.cellsOf t = n := by
  unfold Program.cellsOf
  cases e : P.info? t with
  | none => rw [e] at h; cases h
  | some i => rw [e] at h; simpa using h
theorem cells_i64 : Try.prog.cellsOf 2 = 1 := cells_of_size (by kernel_rfl)
theorem cells_col : Try.prog.cellsOf 26 = 24 := cells_of_size (by kernel_rfl)
theorem ints_i64 : Ints enc Try.prog w base spare held 2 := ints_int Try.underlying2
theorem ints_col : Ints enc Try.prog w base spare held 26 := ints_array (n := 24) (m := 1) Try.underlying26 cells_col cells_i64 ints_i64
theorem cells_st : Try.prog.cellsOf 30 = 24 := cells_of_size (by kernel_rfl)
theorem ints_st : Ints enc Try.prog w base spare held 30 := ints_array (n := 24) (m := 1) Try.underlying30 cells_st cells_i64 ints_i64
set_option maxRecDepth 100000 in
theorem cells_a3 : Try.prog.cellsOf 31 = 3 := cells_of_size (by kernel_rfl)
set_option maxRecDepth 100000 in
theorem ints_a3 : Ints enc Try.prog w base spare held 31 := ints_array (n := 3) (m := 1) Try.underlying31 cells_a3 cells_i64 ints_i64
set_option maxRecDepth 100000 in
theorem cells_imu : Try.prog.cellsOf 33 = 8 := cells_of_size (by kernel_rfl)
set_option maxRecDepth 100000 in
theorem ints_imu : Ints enc Try.prog w base spare held 33 := by
  refine ints_struct (n := 8) Try.underlying33 cells_imu (fun q hq => ?_) (fun j f hj => ?_)
  · by_cases h0 : q < 2
    · obtain rfl | rfl : q = 0 ∨ q = 1 := by omega
      · exact ⟨0, _, rfl, Nat.le_refl _, by show 0 < 0 + Try.prog.cellsOf 2; rw [cells_i64]; omega⟩
      · exact ⟨1, _, rfl, Nat.le_refl _, by show 1 < 1 + Try.prog.cellsOf 2; rw [cells_i64]; omega⟩
    · by_cases h1 : q < 5
      · exact ⟨2, _, rfl, by show 2 ≤ q; omega, by show q < 2 + Try.prog.cellsOf 31; rw [cells_a3]; omega⟩
      · exact ⟨3, _, rfl, by show 5 ≤ q; omega, by show q < 5 + Try.prog.cellsOf 31; rw [cells_a3]; omega⟩
  · match j, hj with
    | 0, hj => cases hj; exact ints_i64
    | 1, hj => cases hj; exact ints_i64
    | 2, hj => cases hj; exact ints_a3
    | 3, hj => cases hj; exact ints_a3
    | n + 4, hj => rw [Array.getElem?_eq_none (by show 4 ≤ n + 4; omega)] at hj; cases hj
theorem own_knob : ownKnob Try.prog.godebug = none := by kernel_rfl
theorem laid_out : laidOutB Try.prog = true := by kernel_rfl
end
end Go.Proofs.Ytanmddenleffaaa
