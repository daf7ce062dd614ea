/- Contracts of the program's functions and plain laws, part 4: they hold for all arguments. -/
import Derived.Test.YtgfklheepkgedaaGreatQ03
import Derived.Laws.Tables
import Derived.Deep.WholeRow
import Derived.ChangeKeysEq
import Derived.Laws.StructEq
import Derived.Laws.CopyOwn
import Derived.Tactics
import Derived.ProofKit
import Derived.Deep.Cut
import Derived.Deep.CutRange
/- Arrays of int64 as functions: the cells of a block; small laws. -/
namespace Go.Proofs.YtgfklheepkgedaaGreat
open Go.RowKit
/-- n numbers, as cells. -/
def arrv (n : Nat) (f : Nat → Int) : Array Value := Array.ofFn (n := n) fun i => .int .i64 (f i)
theorem arrv_size (n : Nat) (f : Nat → Int) : (arrv n f).size = n := by simp [arrv]
theorem arrv_get {n : Nat} {f : Nat → Int} {i : Nat} (h : i < n) : (arrv n f)[i]? = some (.int .i64 (f i)) := by simp [arrv, h]
theorem arrv_set (n : Nat) (f : Nat → Int) (j : Nat) (v : Int) : (arrv n f).setIfInBounds j (.int .i64 v) = arrv n (upd f j v) := by
 apply Array.ext_getElem?
 intro i
 rw [Array.getElem?_setIfInBounds]
 by_cases hi : i < n
 ·rw [arrv_get hi]
  by_cases hj : j = i
  ·subst hj; rw [if_pos rfl, arrv_get hi, arrv_size, if_pos hi]; simp [upd]
  ·rw [if_neg hj, arrv_get hi]; simp [upd, show ¬ i = j by omega]
 ·rw [Array.getElem?_eq_none (by rw [arrv_size]; omega)]
  rw [Array.getElem?_eq_none (xs := arrv n (upd f j v)) (by rw [arrv_size]; omega)]
  split
  ·rw [arrv_size, if_neg (by omega)]
  ·rfl
theorem arrv_congr {n : Nat} {f g : Nat → Int} (h : ∀ i, i < n → f i = g i) : arrv n f = arrv n g := by
 apply Array.ext_getElem?
 intro i
 by_cases hi : i < n
 ·rw [arrv_get hi, arrv_get hi, h i hi]
 ·rw [Array.getElem?_eq_none (by rw [arrv_size]; omega), Array.getElem?_eq_none (by rw [arrv_size]; omega)]
/-- Block b holds the numbers f. -/
def Blk (w : World) (b : Nat) (T : TypeId) (n : Nat) (f : Nat → Int) : Prop := w.heap[b]? = some (.cells (arrv n f) T (0, 0))
theorem Blk.cell {w : World} {b T n : Nat} {f : Nat → Int} (h : Blk w b T n f) {i : Nat} (hi : i < n) : w.cell? ⟨b, i, none⟩ = some (.int .i64 (f i)) := by
 rw [cell_of_row w b i _ _ _ h, arrv_get hi]
theorem Blk.free {w : World} {b T n : Nat} {f : Nat → Int} (h : Blk w b T n f) (i : Nat) : w.frozen? ⟨b, i, none⟩ = false := frozen_of_row w b i _ _ h
theorem Blk.lt {w : World} {b T n : Nat} {f : Nat → Int} (h : Blk w b T n f) : b < w.heap.size := by
 rcases Nat.lt_or_ge b w.heap.size with h' | h'
 ·exact h'
 ·unfold Blk at h; rw [Array.getElem?_eq_none h'] at h; cases h
theorem Blk.set {w : World} {b T n : Nat} {f : Nat → Int} (h : Blk w b T n f) (j : Nat) (v : Int) : Blk (w.setCell ⟨b, j, none⟩ (.int .i64 v)) b T n (upd f j v) := by
 have := heap_setCell_same w b j _ _ (.int .i64 v) h
 unfold Blk
 rw [this, arrv_set]
theorem Blk.other {w : World} {b T n : Nat} {f : Nat → Int} (h : Blk w b T n f) {a : Addr} (ha : b ≠ a.block) (v : Value) : Blk (w.setCell a v) b T n f :=
 (heap_setCell_other w a b v ha).trans h
theorem Blk.alloc {w : World} {b T n : Nat} {f : Nat → Int} (h : Blk w b T n f) (o : Obj) : Blk (w.alloc o) b T n f := ((Below.refl w.heap.size w).alloc (Nat.le_refl _) o).block b h.lt |>.trans h
theorem Blk.drew {w : World} {b T n : Nat} {f : Nat → Int} (h : Blk w b T n f) : Blk w.drew b T n f := h
theorem Blk.below {w w' : World} {b T n : Nat} {f : Nat → Int} (h : Blk w b T n f) (hb : Below w.heap.size w w') : Blk w' b T n f := (hb.block b h.lt).trans h
theorem Blk.upd {w w' : World} {b T n : Nat} {f : Nat → Int} (h : Blk w b T n f) {c : Addr} {v : Bool} (u : Upd c v w w') (hn : b ≠ c.block) : Blk w' b T n f := (u.block h.lt hn).trans h
theorem Blk.new (w : World) (T n : Nat) (f : Nat → Int) : Blk (w.alloc (.cells (arrv n f) T)) w.heap.size T n f := heap_alloc_new w _
theorem Blk.new1 (w : World) (o : Obj) (T n : Nat) (f : Nat → Int) : Blk ((w.alloc o).alloc (.cells (arrv n f) T)) (w.heap.size + 1) T n f := by
 have h := Blk.new (w.alloc o) T n f
 rwa [show (w.alloc o).heap.size = w.heap.size + 1 from by simp] at h
theorem blk_new2 (w : World) (o o2 : Obj) (T n : Nat) (f : Nat → Int) : Blk (((w.alloc o).alloc o2).alloc (.cells (arrv n f) T)) (w.heap.size + 1 + 1) T n f := by
 have h := Blk.new1 (w.alloc o) o2 T n f
 rwa [show (w.alloc o).heap.size = w.heap.size + 1 from by simp] at h
theorem blk_new3 (w : World) (o o2 o3 : Obj) (T n : Nat) (f : Nat → Int) : Blk ((((w.alloc o).alloc o2).alloc o3).alloc (.cells (arrv n f) T)) (w.heap.size + 1 + 1 + 1) T n f := by
 have h := blk_new2 (w.alloc o) o2 o3 T n f
 rwa [show (w.alloc o).heap.size = w.heap.size + 1 from by simp] at h
theorem Blk.congr {w : World} {b T n : Nat} {f g : Nat → Int} (h : Blk w b T n f) (e : ∀ i, i < n → f i = g i) : Blk w b T n g := by unfold Blk at *; rw [h, arrv_congr e]
theorem Blk.setRow {w : World} {b T n : Nat} {f : Nat → Int} (h : Blk w b T n f) (g : Nat → Int) : Blk (w.setRow b (arrv n g)) b T n g := setRow_heap w b _ _ T _ h
theorem Blk.setRow_other {w : World} {b T n k : Nat} {f : Nat → Int} (h : Blk w b T n f) (cs : Array Value) (hk : b ≠ k) : Blk (w.setRow k cs) b T n f := (Go.setRow_other w k b cs hk).trans h
/-- A flag's cell is in no block of numbers. -/
theorem Blk.flag {w : World} {b T n : Nat} {f : Nat → Int} (h : Blk w b T n f) {c : Addr} {v : Bool} (hc : w.cell? c = some (.bool v)) : b ≠ c.block := by
 intro e
 unfold World.cell? at hc
 rw [← e, h] at hc
 simp only at hc
 split at hc
 ·cases hc
 ·by_cases hi : c.off < n
  ·rw [arrv_get hi] at hc; cases hc
  ·rw [Array.getElem?_eq_none (by rw [arrv_size]; omega)] at hc; cases hc
theorem below_row {B g : Nat} {w0 w : World} (hb : Below B w0 w) (hBg : B ≤ g) (cs : Array Value) : Below B w0 (w.setRow g cs) :=
 hb.trans ⟨rfl, rfl, rfl, by simp, fun k hk => Go.setRow_other w g k cs (by omega)⟩
theorem oneCell_arrv (n : Nat) (f : Nat → Int) : (arrv n f).all (·.oneCell') = true := by
 rw [Array.all_eq_true]
 intro i hi
 simp [arrv, Value.oneCell']
end Go.Proofs.YtgfklheepkgedaaGreat
/- The equality of two arrays of int64, as numbers. -/
namespace Go.Proofs.YtgfklheepkgedaaGreat
open Go
set_option maxRecDepth 100000
theorem plain_int {P : Program} {e : TypeId} (h : P.underlying e = some (.int .i64)) : P.plainKey e = true := by simp [Program.plainKey, h]
theorem run_eqItems_int {P : Program} {w : World} (d : Nat) {e : TypeId} (h : P.underlying e = some (.int .i64)) (n : Nat) (f g : Nat → Int) : ∀ (is : List Nat), (∀ i ∈ is, i < n) →
  (Op.eqItems (d + 1) e 1 (arrv n f) (arrv n g) is).run P w = .ok (is.all fun i => f i == g i) w
 | [], _ => by simp [Op.eqItems]
 | i :: is, hi => by
  have hin := hi i (by simp)
  simp only [Op.eqItems, Sem.run_bind, Nat.mul_one, run_part_plain w (plain_int h) (arrv_get (f := f) hin), run_part_plain w (plain_int h) (arrv_get (f := g) hin), Result.andThen_ok, run_equalIn_int w d e .i64 .i64 _ _ h]
  by_cases e1 : f i = g i
  ·simp only [e1, beq_self_eq_true, Bool.not_true, Bool.false_eq_true, if_false, List.all_cons, Bool.true_and]
   exact run_eqItems_int d h n f g is fun j hj => hi j (by simp [hj])
  ·have : (f i == g i) = false := by simpa using e1
   simp [this]
def eqB (n : Nat) (f g : Nat → Int) : Bool := (List.range n).all fun i => f i == g i
theorem eqB_iff {n : Nat} {f g : Nat → Int} : eqB n f g = true ↔ ∀ i, i < n → f i = g i := by simp [eqB]
theorem run_equalIn_vec {P : Program} {w : World} (d : Nat) {t e : TypeId} {n : Nat} (hu : P.underlying t = some (.array n e)) (h : P.underlying e = some (.int .i64)) (hi : P.cellsOf e = 1) {i : TypeInfo} (hi2 : P.info? e = some i) (f g : Nat → Int) :
  (Op.equalIn (d + 2) t (.agg (arrv n f)) (.agg (arrv n g))).run P w = .ok (eqB n f g) w := by
 rw [show d + 2 = (d + 1) + 1 from rfl, run_equalIn_array w (d + 1) _ _ hu hi2, hi]
 exact run_eqItems_int d h n f g _ fun i hi => by simpa using hi
theorem arrv_extract (n a b : Nat) (f : Nat → Int) (h : a + b ≤ n) : (arrv n f).extract a (a + b) = arrv b fun i => f (a + i) := by
 apply Array.ext_getElem?
 intro i
 by_cases hi : i < b
 ·rw [arrv_get hi, Array.getElem?_extract, if_pos (by rw [arrv_size]; omega), arrv_get (by omega)]
 ·rw [Array.getElem?_eq_none (xs := arrv b _) (by rw [arrv_size]; omega), Array.getElem?_eq_none (by simp [arrv_size]; omega)]
open Go in
/-- '==' of two arrays of int64, at the operation. -/
theorem run_op_eqlVec {n : Nat} {T : TypeId} (hT : Tryz.prog.underlying T = some (.array n 2)) (hG : Tryz.prog.eqGuardType Tryz.prog.depth T = false) {o : Oper} {ev : Operand → Value} {w : World} (x y : Operand) (ho : o.op = .binOp .eql T x y T) {f g : Nat → Int} (hx : ev x = .agg (arrv n f)) (hy : ev y = .agg (arrv n g)) {b : Bool} (hb : eqB n f g = b) :
  (execOp ev o).run Tryz.prog w = .ok (.value (.bool b)) w := by
 have h : (Tryz.prog.info? 2).map (·.size) = some 1 := by kernel_rfl
 obtain ⟨i, h2, s2⟩ : ∃ i, Tryz.prog.info? 2 = some i ∧ i.size = 1 := by
  cases e : Tryz.prog.info? 2 with
  | none => rw [e] at h; cases h
  | some i => rw [e] at h; exact ⟨i, rfl, by simpa using h⟩
 have e : (Op.equal T (.agg (arrv n f)) (.agg (arrv n g))).run Tryz.prog w = .ok (eqB n f g) w :=
  run_equalIn_vec (w := w) 9998 hT Tryz.underlying2 (by simp [Program.cellsOf, h2, s2]) h2 _ _
 unfold execOp
 simp only [ho, hx, hy, eqGuard, binOp, Sem.run_bind, Sem.run_pure, Result.andThen_ok]
 simp [hG, e, hb, go_sem]
end Go.Proofs.YtgfklheepkgedaaGreat
/- The equality of two covariances, as numbers. -/
namespace Go.Proofs.YtgfklheepkgedaaGreat
open Go
set_option maxRecDepth 100000
def covB (f g : Nat → Int) : Bool := eqB 276 f g && eqB 24 (fun i => f (276 + i)) (fun i => g (276 + i))
theorem covB_iff {f g : Nat → Int} : covB f g = true ↔ ∀ i, i < 300 → f i = g i := by
 unfold covB
 rw [Bool.and_eq_true, eqB_iff, eqB_iff]
 constructor
 ·rintro ⟨h1, h2⟩ i hi
  by_cases h : i < 276
  ·exact h1 i h
  ·have := h2 (i - 276) (by omega); rwa [show 276 + (i - 276) = i by omega] at this
 ·intro h
  exact ⟨fun i hi => h i (by omega), fun i hi => h _ (by omega)⟩
theorem run_part_vec {P : Program} {w : World} {t e : TypeId} {n m : Nat} {i : TypeInfo} (hu : P.underlying t = some (.array n e)) (hi : P.info? t = some i) (hn : i.size = n) (a : Nat) (f : Nat → Int) (h : a + n ≤ m) :
  (part t (arrv m f) a).run P w = .ok (.agg (arrv n fun i => f (a + i))) w := by
 have hagg : (isAgg t).run P w = .ok true w := by
  unfold isAgg
  rw [Sem.run_bind, run_underlying hu w]
  rfl
 have hs : P.cellsOf t = n := by simp [Program.cellsOf, hi, hn]
 unfold part
 simp only [Sem.run_bind, hagg, Result.andThen_ok, if_true, run_sizeOf w hi, hs, Sem.run_pure]
 rw [arrv_extract m a n f h]
theorem run_eqFields_cons {P : Program} {w : World} {d : Nat} {xs ys : Array Value} {f : Field} {fs : List Field} {a b : Value} {r r' : Bool} (hn : f.name ≠ "_") (ha : (part f.type xs f.offset).run P w = .ok a w)
  (hb : (part f.type ys f.offset).run P w = .ok b w) (hr : (Op.equalIn d f.type a b).run P w = .ok r w) (h : (Op.eqFields d xs ys fs).run P w = .ok r' w) : (Op.eqFields d xs ys (f :: fs)).run P w = .ok (r && r') w := by
 simp only [Op.eqFields, if_pos hn, Sem.run_bind, ha, hb, hr, Result.andThen_ok]
 cases r
 ·simp
 ·simp [h]
theorem fieldsOf_of {P : Program} {t : TypeId} {fs : Array Field} (h : P.underlying t = some (.struct fs)) : P.fieldsOf t = fs := by simp [Program.fieldsOf, h]
theorem run_equalIn_cov (d : Nat) (w : World) (f g : Nat → Int) : (Op.equalIn (d + 3) 26 (.agg (arrv 300 f)) (.agg (arrv 300 g))).run Tryz.prog w = .ok (covB f g) w := by
 have hf := fieldsOf_of Tryz.underlying26
 rw [show d + 3 = (d + 2) + 1 from rfl, run_equalIn_struct w (d + 2) _ _ _ (by rw [hf]; exact Tryz.underlying26) (by kernel_rfl), hf]
 have hi22 : ∃ i, Tryz.prog.info? 24 = some i ∧ i.size = 276 := by
  have h : (Tryz.prog.info? 24).map (·.size) = some 276 := by kernel_rfl
  cases e : Tryz.prog.info? 24 with
  | none => rw [e] at h; cases h
  | some i => rw [e] at h; exact ⟨i, rfl, by simpa using h⟩
 have hi23 : ∃ i, Tryz.prog.info? 22 = some i ∧ i.size = 24 := by
  have h : (Tryz.prog.info? 22).map (·.size) = some 24 := by kernel_rfl
  cases e : Tryz.prog.info? 22 with
  | none => rw [e] at h; cases h
  | some i => rw [e] at h; exact ⟨i, rfl, by simpa using h⟩
 have hi2 : ∃ i, Tryz.prog.info? 2 = some i ∧ i.size = 1 := by
  have h : (Tryz.prog.info? 2).map (·.size) = some 1 := by kernel_rfl
  cases e : Tryz.prog.info? 2 with
  | none => rw [e] at h; cases h
  | some i => rw [e] at h; exact ⟨i, rfl, by simpa using h⟩
 obtain ⟨i22, h22, s22⟩ := hi22
 obtain ⟨i23, h23, s23⟩ := hi23
 obtain ⟨i2, h2, s2⟩ := hi2
 have hc : Tryz.prog.cellsOf 2 = 1 := by simp [Program.cellsOf, h2, s2]
 have p0 := fun f => run_part_vec (w := w) (m := 300) Tryz.underlying24 h22 s22 0 f (by omega)
 have p1 := fun f => run_part_vec (w := w) (m := 300) Tryz.underlying22 h23 s23 276 f (by omega)
 have q0 := fun f g => run_equalIn_vec (w := w) d Tryz.underlying24 Tryz.underlying2 hc h2 f g
 have q1 := fun f g => run_equalIn_vec (w := w) d Tryz.underlying22 Tryz.underlying2 hc h2 f g
 have z : (Op.eqFields (d + 2) (arrv 300 f) (arrv 300 g) []).run Tryz.prog w = .ok true w := by simp [Op.eqFields]
 have e1 := run_eqFields_cons (f := ⟨"D", 22, 276, false, "", "", 2208⟩) (by decide) (p1 f) (p1 g) (q1 _ _) z
 have e0 := run_eqFields_cons (f := ⟨"U", 24, 0, false, "", "", 0⟩) (by decide) (p0 f) (p0 g) (q0 _ _) e1
 refine Eq.trans e0 ?_
 simp [covB]
theorem run_equal_cov (w : World) (f g : Nat → Int) : (Op.equal 26 (.agg (arrv 300 f)) (.agg (arrv 300 g))).run Tryz.prog w = .ok (covB f g) w := run_equalIn_cov 9997 w f g
end Go.Proofs.YtgfklheepkgedaaGreat
/- A whole row of numbers loaded or stored, inside a region that draws its order. -/
namespace Go.Proofs.YtgfklheepkgedaaGreat
open Go.RowKit
set_option maxRecDepth 100000
open Go in
theorem run_load_row {P : Program} {o : Oper} {ev : Operand → Value} {w : World} (ty : TypeId) (x : Operand) (ho : o.op = .load ty x)
  (g : Nat) (hx : ev x = .pointer (some ⟨g, 0, none⟩)) (t : TypeId) (cs : Array Value) (fr : Nat × Nat) (d : TypeDesc) (hg : w.heap[g]? = some (.cells cs t fr))
  (hu : P.underlying ty = some d) (hd : (match d with | .struct _ | .array _ _ => true | _ => false) = true) (hi : (P.info? ty).map (·.size) = some cs.size) :
  (execOp ev o).run P w = .ok (.value (.agg cs)) w := by
 unfold execOp
 simp [ho, hx, Instr.loadAt, Instr.sureAddr, Sem.run_bind, run_loadVar_row (P := P) w g t ty cs fr d hg hu hd hi]
open Go in
theorem run_storeCells_row {P : Program} {w : World} {g T n : Nat} {f : Nat → Int} (F : Nat → Int) (h : Blk w g T n f) :
  (storeCells ⟨g, 0, none⟩ (arrv n F).toList).run P w = .ok () (w.setRow g (arrv n F)) := by
 have e := run_storeCells_at (P := P) g 0 T (arrv n F).toList 0 (arrv n f) w h (by simp [arrv_size]) (fun v hv => (Array.all_eq_true'.1 (oneCell_arrv n F)) v (by simpa using hv))
 rw [e]
 congr 2
 simp only [Nat.zero_add, Nat.add_zero, List.take_zero, List.nil_append, Array.length_toList, arrv_size]
 rw [List.drop_of_length_le (by simp [arrv_size]), List.append_nil, Array.toArray_toList]
theorem icol : (Tryz.prog.info? 22).map (·.size) = some 24 := by kernel_rfl
/-- A slice of int64: n numbers from a pointer, or none. -/
def Slc (w : World) (p : Option Addr) (n : Nat) (L : Nat → Int) : Prop := ∀ i, i < n → ∃ b o, p = some ⟨b, o, none⟩ ∧ w.cell? ⟨b, o + i, none⟩ = some (.int .i64 (L i))
theorem Slc.below {w w' : World} {p : Option Addr} {n : Nat} {L : Nat → Int} (h : Slc w p n L) (b : Below w.heap.size w w') : Slc w' p n L := fun i hi => by
 obtain ⟨k, o, rfl, hc⟩ := h i hi
 exact ⟨k, o, rfl, (b.cell (World.block_lt_of_cell? _ _ hc)).trans hc⟩
section
open Go
end
end Go.Proofs.YtgfklheepkgedaaGreat
/- What a law's walk carries: its own blocks (numbers, flags), and that all that was there is left. -/
namespace Go.Proofs.YtgfklheepkgedaaGreat
open Go.RowKit
/-- Block b holds one flag. -/
def Flg (w : World) (b : Nat) (h : Bool) : Prop := w.heap[b]? = some (.cells #[.bool h] 32 (0, 0))
theorem Flg.cell {w : World} {b : Nat} {h : Bool} (f : Flg w b h) : w.cell? ⟨b, 0, none⟩ = some (.bool h) := by
 rw [cell_of_row w b 0 _ _ _ f]; rfl
theorem Flg.free {w : World} {b : Nat} {h : Bool} (f : Flg w b h) : w.frozen? ⟨b, 0, none⟩ = false := frozen_of_row w b 0 _ _ f
theorem Flg.lt {w : World} {b : Nat} {h : Bool} (f : Flg w b h) : b < w.heap.size := by
 rcases Nat.lt_or_ge b w.heap.size with h' | h'
 ·exact h'
 ·unfold Flg at f; rw [Array.getElem?_eq_none h'] at f; cases f
theorem Flg.below {w w' : World} {b : Nat} {h : Bool} (f : Flg w b h) (hb : Below w.heap.size w w') : Flg w' b h := (hb.block b f.lt).trans f
theorem Flg.alloc {w : World} {b : Nat} {h : Bool} (f : Flg w b h) (o : Obj) : Flg (w.alloc o) b h := f.below ((Below.refl w.heap.size w).alloc (Nat.le_refl _) o)
theorem Flg.other {w : World} {b : Nat} {h : Bool} (f : Flg w b h) {a : Addr} (ha : b ≠ a.block) (v : Value) : Flg (w.setCell a v) b h := (heap_setCell_other w a b v ha).trans f
theorem Flg.row {w : World} {b k : Nat} {h : Bool} (f : Flg w b h) (cs : Array Value) (hk : b ≠ k) : Flg (w.setRow k cs) b h := (Go.setRow_other w k b cs hk).trans f
theorem Flg.new (w : World) (h : Bool) : Flg (w.alloc (.cells #[.bool h] 32)) w.heap.size h := heap_alloc_new w _
theorem Flg.upd {w w' : World} {b : Nat} {h : Bool} (f : Flg w b h) {c : Addr} {v : Bool} (u : Upd c v w w') (hn : b ≠ c.block) : Flg w' b h := (u.block f.lt hn).trans f
/-- Its own flag, raised or not. -/
theorem Flg.hit {w w' : World} {b : Nat} {h h' : Bool} (f : Flg w b h) (u : Upd ⟨b, 0, none⟩ h' w w') : Flg w' b h' := by
 have e : (w.setCell ⟨b, 0, none⟩ (.bool h')).heap[b]? = some (.cells #[.bool h'] 32 (0, 0)) := heap_setCell_same w b 0 _ _ (.bool h') f
 have hl : b < w.heap.size := f.lt
 exact (Below.block u b hl).trans e
theorem Flg.ne {w : World} {b b' : Nat} {h : Bool} {T n : Nat} {f' : Nat → Int} (f : Flg w b h) (k : Blk w b' T n f') : b' ≠ b := k.flag f.cell
/-- Where the flag's cell is new, all that was there is left. -/
theorem own_upd {c : Addr} {h : Bool} {w w1 w2 : World} (b : Below w.heap.size w w1) (hc : w.heap.size ≤ c.block) (u : Upd c h w1 w2) : Below w.heap.size w w2 :=
 b.trans (((Below.refl w.heap.size w1).setCell hc _).trans (Below.mono u b.size))
/-- A block made and filled. -/
theorem Blk.made {w w1 : World} {T n : Nat} {z : Array Value} (hz : z = arrv n (fun _ => 0)) (g : Nat → Int) (e : w1 = (w.alloc (.cells z T)).setRow w.heap.size (arrv n g)) : Blk w1 w.heap.size T n g ∧ Below w.heap.size w w1 := by
 subst e hz
 exact ⟨(Blk.new w T n _).setRow g, below_row ((Below.refl _ _).alloc (Nat.le_refl _) _) (Nat.le_refl _) _⟩
open Go in
/-- An operation of a plain region, by its value. -/
theorem wpList_val {P : Program} {ops : Array Oper} {Q : Exit → Act → World → Prop} {a : Act} {w : World} {rest : List Oper} {o : Oper} {v : Value}
  (hw : Region.wanted o (yielded ops a.tmps) = true) (hy : (execOp a.eval o).run P w = .ok (.value v) w) (h : wpList P ops Q rest (a.put o.dst v) w) : wpList P ops Q (o :: rest) a w :=
 wpList_step fun K hK => by
  rw [if_pos hw]
  unfold Oper.wp
  rw [hy]
  exact hK _ _ h
open Go in
/-- .. by its value and its world. -/
theorem wpList_act {P : Program} {ops : Array Oper} {Q : Exit → Act → World → Prop} {a : Act} {w w' : World} {rest : List Oper} {o : Oper} {v : Value}
  (hw : Region.wanted o (yielded ops a.tmps) = true) (hy : (execOp a.eval o).run P w = .ok (.value v) w') (h : wpList P ops Q rest (a.put o.dst v) w') : wpList P ops Q (o :: rest) a w :=
 wpList_step fun K hK => by
  rw [if_pos hw]
  unfold Oper.wp
  rw [hy]
  exact hK _ _ h
open Go in
/-- .. by its world. -/
theorem wpList_done {P : Program} {ops : Array Oper} {Q : Exit → Act → World → Prop} {a : Act} {w w' : World} {rest : List Oper} {o : Oper}
  (hw : Region.wanted o (yielded ops a.tmps) = true) (hy : (execOp a.eval o).run P w = .ok .skip w') (h : wpList P ops Q rest (a.put o.dst undef) w') : wpList P ops Q (o :: rest) a w :=
 wpList_step fun K hK => by
  rw [if_pos hw]
  unfold Oper.wp
  rw [hy]
  exact hK _ _ h
open Go in
theorem run_store_row {P : Program} {ev : Operand → Value} {o : Oper} {w : World} (ty : TypeId) (x y : Operand) (ho : o.op = .store ty x y)
  (g : Nat) (hx : ev x = .pointer (some ⟨g, 0, none⟩)) {T n : Nat} {F f : Nat → Int} (hy : ev y = .agg (arrv n F)) (hg : Blk w g T n f) (hi : (P.info? ty).map (·.size) = some n) :
  (execOp ev o).run P w = .ok .skip (w.setRow g (arrv n F)) := by
 unfold execOp
 simp only [ho, hx, hy, Instr.storeAt, Instr.sureAddr, Sem.run_bind, Sem.run_pure, Result.andThen_ok, run_storeVar_row (P := P) w g T ty (arrv n f) (arrv n F) hg (hi.trans (by rw [arrv_size])) (by rw [arrv_size, arrv_size]) (oneCell_arrv n F)]
open Go in
/-- A region that draws its order: one of two may come up. -/
theorem wpAnyM_twoS {P : Program} {ops : Array Oper} {Q : Exit → Act → World → Prop} {md : Region.Mode} {L : Nat} {S : World → Prop} (i j : Nat) {oi oj : Oper} {fuel : Nat} {listed : Array Bool} {a : Act} {w : World} (hi : ops.toList[i]? = some oi) (hj : ops.toList[j]? = some oj) (hr : Region.ready md ops listed = [i, j])
  (h1 : ∀ K : Act → World → Prop, Shut (∀ a w, S w → (S w → wpAnyM P md ops Q S L fuel (listed.setIfInBounds i true) a w) → K a w) →
   if Region.wanted oi (yielded ops a.tmps) = true then Oper.wp P oi a w K Q else K (a.put oi.dst undef) w)
  (h2 : ∀ K : Act → World → Prop, Shut (∀ a w, S w → (S w → wpAnyM P md ops Q S L fuel (listed.setIfInBounds j true) a w) → K a w) →
   if Region.wanted oj (yielded ops a.tmps) = true then Oper.wp P oj a w K Q else K (a.put oj.dst undef) w) :
  wpAnyM P md ops Q S L (fuel + 1) listed a w := by
 have hi' : ops[i]? = some oi := by rwa [Array.getElem?_toList] at hi
 have hj' : ops[j]? = some oj := by rwa [Array.getElem?_toList] at hj
 refine ⟨fun h0 => (by rw [hr] at h0; cases h0), fun k hk => ?_⟩
 rw [hr] at hk
 have hk' : k = i ∨ k = j := by simpa using hk
 rcases hk' with rfl | rfl
 ·exact wpOp_step hi' (fun K' hK => h1 K' (fun a w hS hW => hK a w ⟨.inr hS, hW hS⟩))
 ·exact wpOp_step hj' (fun K' hK => h2 K' (fun a w hS hW => hK a w ⟨.inr hS, hW hS⟩))
theorem if_pos_of {b : Bool} {p q : Prop} (h : b = true) (hp : p) : if b = true then p else q := by rw [if_pos h]; exact hp
open Go in
theorem wp_of_run {P : Program} {o : Oper} {a : Act} {w w' : World} {K : Act → World → Prop} {Q : Exit → Act → World → Prop} (hy : (execOp a.eval o).run P w = .ok .skip w') (h : K (a.put o.dst undef) w') : Oper.wp P o a w K Q := by
 unfold Oper.wp
 rw [hy]
 exact h
open Go in
/-- wpList_val, where the value comes out by the plain means. -/
theorem tv {P : Program} {ops : Array Oper} {Q : Exit → Act → World → Prop} {a : Act} {w : World} {rest : List Oper} {o : Oper} {v : Value}
  (h : wpList P ops Q rest (a.put o.dst v) w) (hw : Region.wanted o (yielded ops a.tmps) = true := by rfl)
  (hy : (execOp a.eval o).run P w = .ok (.value v) w := by (go_simp; (try (first | with_reducible rfl | (constructor <;> with_reducible rfl))))) : wpList P ops Q (o :: rest) a w :=
 wpList_val hw hy h
end Go.Proofs.YtgfklheepkgedaaGreat
/- Contract of state.Bounds. -/
namespace Go.Proofs.YtgfklheepkgedaaGreat
open Go.RowKit
set_option maxRecDepth 100000
theorem ibox : (Tryz.prog.info? 111).map (·.size) = some 24 := by kernel_rfl
theorem zvec24 : (#[.int .i64 0, .int .i64 0, .int .i64 0, .int .i64 0, .int .i64 0, .int .i64 0, .int .i64 0, .int .i64 0, .int .i64 0, .int .i64 0, .int .i64 0, .int .i64 0, .int .i64 0, .int .i64 0, .int .i64 0, .int .i64 0, .int .i64 0, .int .i64 0, .int .i64 0, .int .i64 0, .int .i64 0, .int .i64 0, .int .i64 0, .int .i64 0] : Array Value) = arrv 24 (fun _ => 0) := by kernel_rfl
theorem Blk.belowB {w w' : World} {b T n B : Nat} {f : Nat → Int} (h : Blk w b T n f) (hb : Below B w w') (hB : b < B) : Blk w' b T n f := (hb.block b hB).trans h
/-- From a to b the numbers are m. -/
def filF (f : Nat → Int) (a b : Nat) (m : Int) : Nat → Int := fun i => if a ≤ i ∧ i < b then m else f i
theorem bfill_any (f : Nat → Int) (a b : Nat) (m : Int) (g : Nat) (w : World) (hab : a ≤ b) (hb : b ≤ 24) (hB : Blk w g 111 24 f) :
  Calls Tryz.prog 102 #[.int .i64 a, .int .i64 b, .int .i64 m, .pointer (some ⟨g, 0, none⟩)] w fun e w' =>
   e = .returned (.tuple #[]) ∧ Below g w w' ∧ w'.heap.size = w.heap.size ∧ Blk w' g 111 24 (filF f a b m) := by
 have HB := Lib.hid hB
 clear hB
 go_enter Tryz.func102, Tryz.ntmps102
 go_wp2_with fail
 go_loopw [7] (fun i wr => ∃ k : Nat, a ≤ k ∧ k ≤ b ∧ i = .int .i64 k ∧ Hid (Below g w wr ∧ wr.heap.size = w.heap.size ∧ Blk wr g 111 24 (filF f a k m))) (fun i _ => b - (intOf i).toNat)
 case atStart => exact ⟨a, Nat.le_refl _, hab, rfl, Below.refl _ _, rfl, HB.out.congr fun i hi => by simp [filF]; omega⟩
 case round =>
  obtain ⟨k, hk0, hk, rfl, R⟩ := hrel
  by_cases hlt : k < b
  ·have b0 := R.out.2.2.cell (i := k) (by omega)
   have b1 := R.out.2.2.free k
   have d1 : decide (k < b) = true := by simpa using hlt
   go_wp2_with fail
   go_roundw
   case rel =>
    refine ⟨k + 1, by omega, by omega, by go_num, R.out.1.setCell (Nat.le_refl _) _, by rw [setCell_size]; exact R.out.2.1, (R.out.2.2.set k m).congr fun i hi => ?_⟩
    simp only [Go.Proofs.YtgfklheepkgedaaGreat.upd, filF]
    by_cases h1 : i = k
    ·subst h1; rw [if_pos rfl, if_pos (by omega)]
    ·rw [if_neg h1]; split <;> split <;> first | rfl | omega
   case measure => simp [intOf]; omega
  ·have hkb : k = b := by omega
   subst hkb
   have d1 : decide (k < k) = false := by simp
   go_wp2_with fail
   go_end0
   exact ⟨rfl, R.out.1, R.out.2.1, R.out.2.2⟩
/-- The box. -/
def boxF : Nat → Int := fun i => if i < 4 then 1073741840 else if i < 7 then 549755813888 else if i < 10 then 9007199254740992 else if i < 13 then 134217728 else if i < 16 then 1073741824 else if i < 22 then 2147483648 else 137438953472
set_option maxHeartbeats 1000000 in
theorem bounds_any (w : World) : Calls Tryz.prog 71 #[] w fun e w' => e = .returned (.agg (arrv 24 boxF)) ∧ Below w.heap.size w w' := by
 have hmf : ∀ (fn : Fn) (first cap : Array Value) (w : World), (Instr.makeFunc fn first cap).run Tryz.prog w = .ok (.func fn first cap) w := fun _ _ _ _ => rfl
 have S0 : Blk ((w.alloc (.cells #[.int .i64 0, .int .i64 0, .int .i64 0, .int .i64 0, .int .i64 0, .int .i64 0, .int .i64 0, .int .i64 0, .int .i64 0, .int .i64 0, .int .i64 0, .int .i64 0, .int .i64 0, .int .i64 0, .int .i64 0, .int .i64 0, .int .i64 0, .int .i64 0, .int .i64 0, .int .i64 0, .int .i64 0, .int .i64 0, .int .i64 0, .int .i64 0] 111)).alloc (.cells #[.int .i64 0, .int .i64 0, .int .i64 0, .int .i64 0, .int .i64 0, .int .i64 0, .int .i64 0, .int .i64 0, .int .i64 0, .int .i64 0, .int .i64 0, .int .i64 0, .int .i64 0, .int .i64 0, .int .i64 0, .int .i64 0, .int .i64 0, .int .i64 0, .int .i64 0, .int .i64 0, .int .i64 0, .int .i64 0, .int .i64 0, .int .i64 0] 111)) (w.heap.size + 1) 111 24 (fun _ => 0) := by rw [zvec24]; exact Blk.new1 w _ _ 24 _
 have R0 : Blk ((w.alloc (.cells #[.int .i64 0, .int .i64 0, .int .i64 0, .int .i64 0, .int .i64 0, .int .i64 0, .int .i64 0, .int .i64 0, .int .i64 0, .int .i64 0, .int .i64 0, .int .i64 0, .int .i64 0, .int .i64 0, .int .i64 0, .int .i64 0, .int .i64 0, .int .i64 0, .int .i64 0, .int .i64 0, .int .i64 0, .int .i64 0, .int .i64 0, .int .i64 0] 111)).alloc (.cells #[.int .i64 0, .int .i64 0, .int .i64 0, .int .i64 0, .int .i64 0, .int .i64 0, .int .i64 0, .int .i64 0, .int .i64 0, .int .i64 0, .int .i64 0, .int .i64 0, .int .i64 0, .int .i64 0, .int .i64 0, .int .i64 0, .int .i64 0, .int .i64 0, .int .i64 0, .int .i64 0, .int .i64 0, .int .i64 0, .int .i64 0, .int .i64 0] 111)) w.heap.size 111 24 (fun _ => 0) := by rw [zvec24]; exact (Blk.new w _ 24 _).alloc _
 have B0 : Below w.heap.size w ((w.alloc (.cells #[.int .i64 0, .int .i64 0, .int .i64 0, .int .i64 0, .int .i64 0, .int .i64 0, .int .i64 0, .int .i64 0, .int .i64 0, .int .i64 0, .int .i64 0, .int .i64 0, .int .i64 0, .int .i64 0, .int .i64 0, .int .i64 0, .int .i64 0, .int .i64 0, .int .i64 0, .int .i64 0, .int .i64 0, .int .i64 0, .int .i64 0, .int .i64 0] 111)).alloc (.cells #[.int .i64 0, .int .i64 0, .int .i64 0, .int .i64 0, .int .i64 0, .int .i64 0, .int .i64 0, .int .i64 0, .int .i64 0, .int .i64 0, .int .i64 0, .int .i64 0, .int .i64 0, .int .i64 0, .int .i64 0, .int .i64 0, .int .i64 0, .int .i64 0, .int .i64 0, .int .i64 0, .int .i64 0, .int .i64 0, .int .i64 0, .int .i64 0] 111)) := by (repeat (first | with_reducible exact Below.refl _ _ | with_reducible apply Below.drew | (with_reducible refine below_drewN ?_ _) | (with_reducible refine Below.alloc ?_ (by (try simp) <;> omega) _) | (with_reducible refine Below.setCell ?_ (by (try simp) <;> omega) _)))
 go_enter Tryz.func71, Tryz.ntmps71
 go_upto_region 3 with fail
 generalize (w.alloc (.cells #[.int .i64 0, .int .i64 0, .int .i64 0, .int .i64 0, .int .i64 0, .int .i64 0, .int .i64 0, .int .i64 0, .int .i64 0, .int .i64 0, .int .i64 0, .int .i64 0, .int .i64 0, .int .i64 0, .int .i64 0, .int .i64 0, .int .i64 0, .int .i64 0, .int .i64 0, .int .i64 0, .int .i64 0, .int .i64 0, .int .i64 0, .int .i64 0] 111)).alloc (.cells #[.int .i64 0, .int .i64 0, .int .i64 0, .int .i64 0, .int .i64 0, .int .i64 0, .int .i64 0, .int .i64 0, .int .i64 0, .int .i64 0, .int .i64 0, .int .i64 0, .int .i64 0, .int .i64 0, .int .i64 0, .int .i64 0, .int .i64 0, .int .i64 0, .int .i64 0, .int .i64 0, .int .i64 0, .int .i64 0, .int .i64 0, .int .i64 0] 111) = W0 at *
 have S0 := Lib.hid S0
 have R0 := Lib.hid R0
 have B0 := Lib.hid B0
 go_wp2_with fail
 refine (bfill_any _ 0 4 1073741840 (w.heap.size + 1) _ (by decide) (by decide) S0.out).mono ?_; rintro e w1 ⟨rfl, hb1, hz1, S1⟩
 have S1 := Lib.hid S1
 have R1 := Lib.hid (R0.out.belowB hb1 (Nat.lt_succ_self _))
 have B1 := Lib.hid (B0.out.trans (hb1.mono (Nat.le_succ _)))
 clear hb1 hz1 S0 R0 B0
 go_wp2_with fail
 refine (bfill_any _ 4 7 549755813888 (w.heap.size + 1) _ (by decide) (by decide) S1.out).mono ?_; rintro e w2 ⟨rfl, hb2, hz2, S2⟩
 have S2 := Lib.hid S2
 have R2 := Lib.hid (R1.out.belowB hb2 (Nat.lt_succ_self _))
 have B2 := Lib.hid (B1.out.trans (hb2.mono (Nat.le_succ _)))
 clear hb2 hz2 S1 R1 B1
 go_wp2_with fail
 refine (bfill_any _ 7 10 9007199254740992 (w.heap.size + 1) _ (by decide) (by decide) S2.out).mono ?_; rintro e w3 ⟨rfl, hb3, hz3, S3⟩
 have S3 := Lib.hid S3
 have R3 := Lib.hid (R2.out.belowB hb3 (Nat.lt_succ_self _))
 have B3 := Lib.hid (B2.out.trans (hb3.mono (Nat.le_succ _)))
 clear hb3 hz3 S2 R2 B2
 go_wp2_with fail
 refine (bfill_any _ 10 13 134217728 (w.heap.size + 1) _ (by decide) (by decide) S3.out).mono ?_; rintro e w4 ⟨rfl, hb4, hz4, S4⟩
 have S4 := Lib.hid S4
 have R4 := Lib.hid (R3.out.belowB hb4 (Nat.lt_succ_self _))
 have B4 := Lib.hid (B3.out.trans (hb4.mono (Nat.le_succ _)))
 clear hb4 hz4 S3 R3 B3
 go_wp2_with fail
 refine (bfill_any _ 13 16 1073741824 (w.heap.size + 1) _ (by decide) (by decide) S4.out).mono ?_; rintro e w5 ⟨rfl, hb5, hz5, S5⟩
 have S5 := Lib.hid S5
 have R5 := Lib.hid (R4.out.belowB hb5 (Nat.lt_succ_self _))
 have B5 := Lib.hid (B4.out.trans (hb5.mono (Nat.le_succ _)))
 clear hb5 hz5 S4 R4 B4
 go_wp2_with fail
 refine (bfill_any _ 16 22 2147483648 (w.heap.size + 1) _ (by decide) (by decide) S5.out).mono ?_; rintro e w6 ⟨rfl, hb6, hz6, S6⟩
 have S6 := Lib.hid S6
 have R6 := Lib.hid (R5.out.belowB hb6 (Nat.lt_succ_self _))
 have B6 := Lib.hid (B5.out.trans (hb6.mono (Nat.le_succ _)))
 clear hb6 hz6 S5 R5 B5
 go_wp2_with fail
 refine (bfill_any _ 22 24 137438953472 (w.heap.size + 1) _ (by decide) (by decide) S6.out).mono ?_; rintro e w7 ⟨rfl, hb7, hz7, S7⟩
 have S7 := Lib.hid S7
 have R7 := Lib.hid (R6.out.belowB hb7 (Nat.lt_succ_self _))
 have B7 := Lib.hid (B6.out.trans (hb7.mono (Nat.le_succ _)))
 clear hb7 hz7 S6 R6 B6
 have S8 := S7.out.congr (g := boxF) fun i hi => by
  simp only [filF, boxF]
  repeat' split
  all_goals first | rfl | omega
 have R8 := R7.out
 go_wp2_with (first | (refine wpList_load_row rfl 111 _ rfl (w.heap.size + 1) rfl 111 _ (0, 0) _ (S8) Tryz.underlying111 rfl (ibox.trans (by rw [arrv_size])) ?_) | (refine wpList_store_row rfl 111 _ _ rfl (w.heap.size) _ rfl rfl 111 _ (R8) (ibox.trans (by rw [arrv_size])) (by rw [arrv_size, arrv_size]) (oneCell_arrv _ _) ?_))
 refine bodyPost_ret (results_cell_row Tryz.results71 _ _ w.heap.size 111 (arrv 24 boxF) (0, 0) _ rfl (setRow_heap _ _ _ _ _ _ R8) Tryz.underlying111 rfl (ibox.trans (by rw [arrv_size]))) rfl ⟨rfl, ?_⟩
 exact below_row B7.out (Nat.le_refl _) _
end Go.Proofs.YtgfklheepkgedaaGreat
/- Plain numbers: the root, bit by bit (no program here). -/
namespace Go.Proofs.YtgfklheepkgedaaGreat
/-- One round: the rest, and twice the root so far times a power of two. -/
def rootT (s : Nat × Nat) (k : Nat) : Nat × Nat := if s.1 < s.2 + 4 ^ k then (s.1, s.2 / 2) else (s.1 - (s.2 + 4 ^ k), s.2 / 2 + 4 ^ k)
/-- Behind n of 64 rounds. -/
def rootS (A : Nat) : Nat → Nat × Nat | 0 => (A, 0) | n + 1 => rootT (rootS A n) (63 - n)
def rootV (A : Nat) : Nat := if (rootS A 64).2 < (rootS A 64).1 then (rootS A 64).2 + 1 else (rootS A 64).2
theorem rootT_inv (A m rest r R : Nat) (hr : r = R * 2 ^ (m + 1)) (he : rest + R * R = A) (hlt : A < (R + 2 ^ (m + 1)) * (R + 2 ^ (m + 1))) :
  ∃ R', (rootT (rest, r) m).2 = R' * 2 ^ m ∧ (rootT (rest, r) m).1 + R' * R' = A ∧ A < (R' + 2 ^ m) * (R' + 2 ^ m) := by
 have e4 : 4 ^ m = 2 ^ m * 2 ^ m := by rw [← Nat.mul_pow]
 unfold rootT
 rw [e4]
 rw [Nat.pow_succ] at hr hlt
 generalize 2 ^ m = q at *
 have h2 : r / 2 = R * q := by rw [hr, show R * (q * 2) = (R * q) * 2 from by rw [Nat.mul_assoc], Nat.mul_div_cancel _ (by decide)]
 rw [h2]
 have ex : (R + q) * (R + q) = R * R + 2 * (R * q) + q * q := by grind
 have hr' : r = 2 * (R * q) := by rw [hr]; grind
 by_cases h : rest < r + q * q
 ·rw [if_pos h]
  refine ⟨R, rfl, he, ?_⟩
  rw [ex]; omega
 ·rw [if_neg h]
  refine ⟨R + q, ?_, ?_, ?_⟩
  ·rw [Nat.add_mul]
  ·rw [ex]; omega
  ·rw [show R + q + q = R + q * 2 from by omega]; exact hlt
theorem rootS_inv (A : Nat) (hA : A < 2 ^ 128) (n : Nat) (hn : n ≤ 64) :
  ∃ R, (rootS A n).2 = R * 2 ^ (64 - n) ∧ (rootS A n).1 + R * R = A ∧ A < (R + 2 ^ (64 - n)) * (R + 2 ^ (64 - n)) := by
 induction n with
 | zero => exact ⟨0, by simp [rootS], by simp [rootS], by rw [Nat.zero_add, ← Nat.pow_add]; exact hA⟩
 | succ n ih =>
  obtain ⟨R, h1, h2, h3⟩ := ih (by omega)
  have e : 64 - n = (63 - n) + 1 := by omega
  rw [e] at h1 h3
  have h := rootT_inv A (63 - n) _ _ R h1 h2 h3
  rw [show 64 - (n + 1) = 63 - n from by omega]
  exact h
theorem rootV_spec (A : Nat) (hA : A < 2 ^ 128) : (rootV A = 0 ∨ rootV A * rootV A < A + rootV A) ∧ A ≤ rootV A * rootV A + rootV A := by
 obtain ⟨R, h1, h2, h3⟩ := rootS_inv A hA 64 (by decide)
 simp only [show 64 - 64 = 0 from rfl, Nat.pow_zero, Nat.mul_one] at h1 h3
 unfold rootV
 rw [h1]
 have ex : (R + 1) * (R + 1) = R * R + 2 * R + 1 := by grind
 by_cases h : R < (rootS A 64).1
 ·rw [if_pos h, ex]; omega
 ·rw [if_neg h]; omega
/-- All numbers on the way have 128 bits. -/
theorem rootS_bd (A : Nat) (hA : A < 2 ^ 127) (n : Nat) (hn : n < 64) :
  (rootS A n).1 < 2 ^ 127 ∧ (rootS A n).2 + 4 ^ (63 - n) < 2 ^ 128 ∧ (rootS A n).2 < 2 ^ 128 := by
 obtain ⟨R, h1, h2, h3⟩ := rootS_inv A (Nat.lt_trans hA (by decide)) n (by omega)
 have e4 : 4 ^ (63 - n) = 2 ^ (63 - n) * 2 ^ (63 - n) := by rw [← Nat.mul_pow]
 have e2 : 2 ^ (64 - n) = 2 * 2 ^ (63 - n) := by rw [show 64 - n = (63 - n) + 1 from by omega, Nat.pow_succ]; omega
 have hq : 2 ^ (63 - n) ≤ 2 ^ 63 := Nat.pow_le_pow_right (by decide) (by omega)
 rw [e4, h1, e2]
 generalize 2 ^ (63 - n) = q at *
 have hR : R ≤ 13043817825332782212 := by
  rcases Nat.lt_or_ge 13043817825332782212 R with h | h
  ·have h4 : 13043817825332782213 * 13043817825332782213 ≤ R * R := Nat.mul_le_mul h h
   have h5 : (2 : Nat) ^ 127 = 170141183460469231731687303715884105728 := by decide
   omega
  ·exact h
 have h7 : R * (2 * q) ≤ 13043817825332782212 * (2 * 2 ^ 63) := Nat.mul_le_mul hR (by omega)
 have h8 : q * q ≤ 2 ^ 63 * 2 ^ 63 := Nat.mul_le_mul hq hq
 have h5 : (2 : Nat) ^ 127 = 170141183460469231731687303715884105728 := by decide
 have h9 : (2 : Nat) ^ 128 = 340282366920938463463374607431768211456 := by decide
 have h10 : (2 : Nat) ^ 63 * 2 ^ 63 = 85070591730234615865843651857942052864 := by decide
 have h12 : 13043817825332782212 * (2 * 2 ^ 63) = 240615969168004511538585310832300654592 := by decide
 omega
theorem rootS_end (A : Nat) (hA : A < 2 ^ 127) : (rootS A 64).1 < 2 ^ 127 ∧ (rootS A 64).2 < 2 ^ 64 := by
 obtain ⟨R, h1, h2, h3⟩ := rootS_inv A (Nat.lt_trans hA (by decide)) 64 (by decide)
 simp only [show 64 - 64 = 0 from rfl, Nat.pow_zero, Nat.mul_one] at h1 h3
 rw [h1]
 refine ⟨by omega, ?_⟩
 rcases Nat.lt_or_ge R (2 ^ 64) with h | h
 ·exact h
 ·have h4 : 2 ^ 64 * 2 ^ 64 ≤ R * R := Nat.mul_le_mul h h
  have h5 : (2 : Nat) ^ 127 = 170141183460469231731687303715884105728 := by decide
  have h6 : (2 : Nat) ^ 64 * 2 ^ 64 = 340282366920938463463374607431768211456 := by decide
  omega
end Go.Proofs.YtgfklheepkgedaaGreat
