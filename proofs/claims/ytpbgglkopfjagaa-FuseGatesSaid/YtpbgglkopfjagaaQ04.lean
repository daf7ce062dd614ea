/- Contracts of the program's functions and plain laws, part 4: they hold for all arguments. -/
import Derived.Test.YtpbgglkopfjagaaProg
import Derived.WalkKit
import Derived.WalkSpells
import Derived.WalkLawsBesides
import Derived.KernelRfl
import Derived.Test.YtpbgglkopfjagaaQ03
import Derived.Laws.Tables
import Derived.Deep.WholeRow
import Derived.Laws.CopyOwn
import Derived.Deep.Cut
import Derived.Deep.CutRange
import Derived.Test.YtpbgglkopfjagaaQ02
import Derived.Shelf.Spec.BitsCarry
/- The great noughts by name, where the program's own form does not name them. -/
namespace Go.Proofs.Ytpbgglkopfjagaa
open Go
end Go.Proofs.Ytpbgglkopfjagaa
/- Arrays of int64 as functions: the cells of a block; small laws. -/
namespace Go.Proofs.Ytpbgglkopfjagaa
open Go.RowKit
/-- n numbers, as cells. -/
def arrv (n : Nat) (f : Nat → Int) : Array Value := Array.ofFn (n := n) fun i => .int .i64 (f i)
theorem arrv_size (n : Nat) (f : Nat → Int) : (arrv n f).size = n := by simp [arrv]
theorem arrv_get {n : Nat} {f : Nat → Int} {i : Nat} (h : i < n) : (arrv n f)[i]? = some (.int .i64 (f i)) := by simp [arrv, h]
theorem arrv_set (n : Nat) (f : Nat → Int) (j : Nat) (v : Int) : (arrv n f).setIfInBounds j (.int .i64 v) = arrv n (upd f j v) := by
  apply Array.ext_getElem?
  intro i
  rw [Array.getElem?_setIfInBounds]
  by_cases hi : i < n
  · rw [arrv_get hi]
    by_cases hj : j = i
    · subst hj; rw [if_pos rfl, arrv_get hi, arrv_size, if_pos hi]; simp [upd]
    · rw [if_neg hj, arrv_get hi]; simp [upd, show ¬ i = j by omega]
  · rw [Array.getElem?_eq_none (by rw [arrv_size]; omega)]
    rw [Array.getElem?_eq_none (xs := arrv n (upd f j v)) (by rw [arrv_size]; omega)]
    split
    · rw [arrv_size, if_neg (by omega)]
    · rfl
theorem arrv_congr {n : Nat} {f g : Nat → Int} (h : ∀ i, i < n → f i = g i) : arrv n f = arrv n g := by
  apply Array.ext_getElem?
  intro i
  by_cases hi : i < n
  · rw [arrv_get hi, arrv_get hi, h i hi]
  · rw [Array.getElem?_eq_none (by rw [arrv_size]; omega), Array.getElem?_eq_none (by rw [arrv_size]; omega)]
/-- Block b holds the numbers f. -/
def Blk (w : World) (b : Nat) (T : TypeId) (n : Nat) (f : Nat → Int) : Prop := w.heap[b]? = some (.cells (arrv n f) T (0, 0))
theorem Blk.cell {w : World} {b T n : Nat} {f : Nat → Int} (h : Blk w b T n f) {i : Nat} (hi : i < n) : w.cell? ⟨b, i, none⟩ = some (.int .i64 (f i)) := by
  rw [cell_of_row w b i _ _ _ h, arrv_get hi]
theorem Blk.free {w : World} {b T n : Nat} {f : Nat → Int} (h : Blk w b T n f) (i : Nat) : w.frozen? ⟨b, i, none⟩ = false := frozen_of_row w b i _ _ h
theorem Blk.lt {w : World} {b T n : Nat} {f : Nat → Int} (h : Blk w b T n f) : b < w.heap.size := by
  rcases Nat.lt_or_ge b w.heap.size with h' | h'
  · exact h'
  · unfold Blk at h; rw [Array.getElem?_eq_none h'] at h; cases h
theorem Blk.set {w : World} {b T n : Nat} {f : Nat → Int} (h : Blk w b T n f) (j : Nat) (v : Int) : Blk (w.setCell ⟨b, j, none⟩ (.int .i64 v)) b T n (upd f j v) := by
  have := heap_setCell_same w b j _ _ (.int .i64 v) h
  unfold Blk
  rw [this, arrv_set]
theorem Blk.other {w : World} {b T n : Nat} {f : Nat → Int} (h : Blk w b T n f) {a : Addr} (ha : b ≠ a.block) (v : Value) : Blk (w.setCell a v) b T n f :=
  (heap_setCell_other w a b v ha).trans h
theorem Blk.alloc {w : World} {b T n : Nat} {f : Nat → Int} (h : Blk w b T n f) (o : Obj) : Blk (w.alloc o) b T n f := ((Below.refl w.heap.size w).alloc (Nat.le_refl _) o).block b h.lt |>.trans h
theorem Blk.drew {w : World} {b T n : Nat} {f : Nat → Int} (h : Blk w b T n f) : Blk w.drew b T n f := h
theorem Blk.below {w w' : World} {b T n : Nat} {f : Nat → Int} (h : Blk w b T n f) (hb : Below w.heap.size w w') : Blk w' b T n f := (hb.block b h.lt).trans h
theorem Blk.upd {w w' : World} {b T n : Nat} {f : Nat → Int} (h : Blk w b T n f) {c : Addr} {v : Bool} (u : Upd c v w w') (hn : b ≠ c.block) : Blk w' b T n f := (u.block h.lt hn).trans h
theorem Blk.new (w : World) (T n : Nat) (f : Nat → Int) : Blk (w.alloc (.cells (arrv n f) T)) w.heap.size T n f := heap_alloc_new w _
theorem Blk.new1 (w : World) (o : Obj) (T n : Nat) (f : Nat → Int) : Blk ((w.alloc o).alloc (.cells (arrv n f) T)) (w.heap.size + 1) T n f := by
  have h := Blk.new (w.alloc o) T n f
  rwa [show (w.alloc o).heap.size = w.heap.size + 1 from by simp] at h
theorem blk_new2 (w : World) (o o2 : Obj) (T n : Nat) (f : Nat → Int) : Blk (((w.alloc o).alloc o2).alloc (.cells (arrv n f) T)) (w.heap.size + 1 + 1) T n f := by
  have h := Blk.new1 (w.alloc o) o2 T n f
  rwa [show (w.alloc o).heap.size = w.heap.size + 1 from by simp] at h
theorem blk_new3 (w : World) (o o2 o3 : Obj) (T n : Nat) (f : Nat → Int) : Blk ((((w.alloc o).alloc o2).alloc o3).alloc (.cells (arrv n f) T)) (w.heap.size + 1 + 1 + 1) T n f := by
  have h := blk_new2 (w.alloc o) o2 o3 T n f
  rwa [show (w.alloc o).heap.size = w.heap.size + 1 from by simp] at h
theorem Blk.congr {w : World} {b T n : Nat} {f g : Nat → Int} (h : Blk w b T n f) (e : ∀ i, i < n → f i = g i) : Blk w b T n g := by unfold Blk at *; rw [h, arrv_congr e]
theorem Blk.setRow {w : World} {b T n : Nat} {f : Nat → Int} (h : Blk w b T n f) (g : Nat → Int) : Blk (w.setRow b (arrv n g)) b T n g := setRow_heap w b _ _ T _ h
theorem Blk.setRow_other {w : World} {b T n k : Nat} {f : Nat → Int} (h : Blk w b T n f) (cs : Array Value) (hk : b ≠ k) : Blk (w.setRow k cs) b T n f := (Go.setRow_other w k b cs hk).trans h
/-- A flag's cell is in no block of numbers. -/
theorem Blk.flag {w : World} {b T n : Nat} {f : Nat → Int} (h : Blk w b T n f) {c : Addr} {v : Bool} (hc : w.cell? c = some (.bool v)) : b ≠ c.block := by
  intro e
  unfold World.cell? at hc
  rw [← e, h] at hc
  simp only at hc
  split at hc
  · cases hc
  · by_cases hi : c.off < n
    · rw [arrv_get hi] at hc; cases hc
    · rw [Array.getElem?_eq_none (by rw [arrv_size]; omega)] at hc; cases hc
theorem below_row {B g : Nat} {w0 w : World} (hb : Below B w0 w) (hBg : B ≤ g) (cs : Array Value) : Below B w0 (w.setRow g cs) :=
  hb.trans ⟨rfl, rfl, rfl, by simp, fun k hk => Go.setRow_other w g k cs (by omega)⟩
theorem oneCell_arrv (n : Nat) (f : Nat → Int) : (arrv n f).all (·.oneCell') = true := by
  rw [Array.all_eq_true]
  intro i hi
  simp [arrv, Value.oneCell']
end Go.Proofs.Ytpbgglkopfjagaa
/- A whole row of numbers loaded or stored, inside a region that draws its order. -/
namespace Go.Proofs.Ytpbgglkopfjagaa
open Go.RowKit
set_option maxRecDepth 100000
open Go in
theorem run_load_row {P : Program} {o : Oper} {ev : Operand → Value} {w : World} (ty : TypeId) (x : Operand) (ho : o.op = .load ty x)
    (g : Nat) (hx : ev x = .pointer (some ⟨g, 0, none⟩)) (t : TypeId) (cs : Array Value) (fr : Nat × Nat) (d : TypeDesc) (hg : w.heap[g]? = some (.cells cs t fr))
    (hu : P.underlying ty = some d) (hd : (match d with | .struct _ | .array _ _ => true | _ => false) = true) (hi : (P.info? ty).map (·.size) = some cs.size) :
    (execOp ev o).run P w = .ok (.value (.agg cs)) w := by
  unfold execOp
  simp [ho, hx, Instr.loadAt, Instr.sureAddr, Sem.run_bind, run_loadVar_row (P := P) w g t ty cs fr d hg hu hd hi]
open Go in
theorem run_storeCells_row {P : Program} {w : World} {g T n : Nat} {f : Nat → Int} (F : Nat → Int) (h : Blk w g T n f) :
    (storeCells ⟨g, 0, none⟩ (arrv n F).toList).run P w = .ok () (w.setRow g (arrv n F)) := by
  have e := run_storeCells_at (P := P) g 0 T (arrv n F).toList 0 (arrv n f) w h (by simp [arrv_size]) (fun v hv => (Array.all_eq_true'.1 (oneCell_arrv n F)) v (by simpa using hv))
  rw [e]
  congr 2
  simp only [Nat.zero_add, Nat.add_zero, List.take_zero, List.nil_append, Array.length_toList, arrv_size]
  rw [List.drop_of_length_le (by simp [arrv_size]), List.append_nil, Array.toArray_toList]
theorem icol : (Try.prog.info? 22).map (·.size) = some 24 := by kernel_rfl
/-- A slice of int64: n numbers from a pointer, or none. -/
def Slc (w : World) (p : Option Addr) (n : Nat) (L : Nat → Int) : Prop := ∀ i, i < n → ∃ b o, p = some ⟨b, o, none⟩ ∧ w.cell? ⟨b, o + i, none⟩ = some (.int .i64 (L i))
theorem Slc.below {w w' : World} {p : Option Addr} {n : Nat} {L : Nat → Int} (h : Slc w p n L) (b : Below w.heap.size w w') : Slc w' p n L := fun i hi => by
  obtain ⟨k, o, rfl, hc⟩ := h i hi
  exact ⟨k, o, rfl, (b.cell (World.block_lt_of_cell? _ _ hc)).trans hc⟩
section
open Go
theorem foldl_set (l : List Value) : ∀ (k : Nat) (cs : Array Value), k + l.length ≤ cs.size → ∀ i,
    ((l.zipIdx k).foldl (fun (cs : Array Value) (x : Value × Nat) => cs.setIfInBounds (0 + x.2) x.1) cs)[i]? = if k ≤ i ∧ i < k + l.length then l[i - k]? else cs[i]? := by
  induction l with
  | nil => intro k cs _ i; simp; intro h; omega
  | cons v l ih =>
    intro k cs h i
    simp only [List.zipIdx_cons, List.foldl_cons, List.length_cons] at h ⊢
    rw [ih (k + 1) _ (by simp; omega) i]
    by_cases h1 : k + 1 ≤ i ∧ i < k + 1 + l.length
    · rw [if_pos h1, if_pos (by omega), show i - k = (i - (k + 1)) + 1 by omega, List.getElem?_cons_succ]
    · rw [if_neg h1]
      by_cases h2 : i = k
      · subst h2
        rw [if_pos (by omega), Nat.sub_self, Nat.zero_add]
        simp [show i < cs.size by omega]
      · rw [if_neg (by omega), Nat.zero_add, Array.getElem?_setIfInBounds, if_neg (by omega)]
theorem fill_one (pl : Nat → Option (Nat × Nat)) (cs V : Array Value) (n : Nat) (hn : V.size = n) (hp : pl 0 = some (0, n)) (hs : V.size ≤ cs.size) :
    Instr.fill pl cs [(0, .agg V)] = some (V.toList.zipIdx.foldl (fun (cs : Array Value) (x : Value × Nat) => cs.setIfInBounds (0 + x.2) x.1) cs) := by
  have hc : (Value.agg V).cells = V := rfl
  unfold Instr.fill
  simp only [hp, hc]
  rw [if_neg (by simp [hn]; omega)]
  unfold Instr.fill
  rw [← Array.foldl_toList, Array.toList_zipIdx]
theorem fill_first (pl : Nat → Option (Nat × Nat)) (n m : Nat) (f : Nat → Int) (hp : pl 0 = some (0, n)) :
    Instr.fill pl (arrv (n + m) (fun _ => 0)) [(0, .agg (arrv n f))] = some (arrv (n + m) (fun x => if x < n then f x else 0)) := by
  rw [fill_one pl _ (arrv n f) n (arrv_size ..) hp (by rw [arrv_size, arrv_size]; omega)]
  apply congrArg some
  apply Array.ext_getElem?
  intro i
  refine Eq.trans (foldl_set (arrv n f).toList 0 (arrv (n + m) (fun _ => 0)) (by simp [arrv_size]) i) ?_
  simp only [Array.length_toList, arrv_size, Nat.zero_le, true_and, Nat.zero_add, Nat.sub_zero, Array.getElem?_toList]
  by_cases h3 : i < n
  · rw [if_pos h3, arrv_get h3, arrv_get (by omega), if_pos h3]
  · rw [if_neg h3]
    by_cases h4 : i < n + m
    · rw [arrv_get h4, arrv_get h4, if_neg h3]
    · rw [Array.getElem?_eq_none (by rw [arrv_size]; omega), Array.getElem?_eq_none (by rw [arrv_size]; omega)]
end
end Go.Proofs.Ytpbgglkopfjagaa
/- What a law's walk carries: its own blocks (numbers, flags), and that all that was there is left. -/
namespace Go.Proofs.Ytpbgglkopfjagaa
open Go.RowKit
/-- Block b holds one flag. -/
def Flg (w : World) (b : Nat) (h : Bool) : Prop := w.heap[b]? = some (.cells #[.bool h] 31 (0, 0))
theorem Flg.cell {w : World} {b : Nat} {h : Bool} (f : Flg w b h) : w.cell? ⟨b, 0, none⟩ = some (.bool h) := by
  rw [cell_of_row w b 0 _ _ _ f]; rfl
theorem Flg.free {w : World} {b : Nat} {h : Bool} (f : Flg w b h) : w.frozen? ⟨b, 0, none⟩ = false := frozen_of_row w b 0 _ _ f
theorem Flg.lt {w : World} {b : Nat} {h : Bool} (f : Flg w b h) : b < w.heap.size := by
  rcases Nat.lt_or_ge b w.heap.size with h' | h'
  · exact h'
  · unfold Flg at f; rw [Array.getElem?_eq_none h'] at f; cases f
theorem Flg.below {w w' : World} {b : Nat} {h : Bool} (f : Flg w b h) (hb : Below w.heap.size w w') : Flg w' b h := (hb.block b f.lt).trans f
theorem Flg.alloc {w : World} {b : Nat} {h : Bool} (f : Flg w b h) (o : Obj) : Flg (w.alloc o) b h := f.below ((Below.refl w.heap.size w).alloc (Nat.le_refl _) o)
theorem Flg.other {w : World} {b : Nat} {h : Bool} (f : Flg w b h) {a : Addr} (ha : b ≠ a.block) (v : Value) : Flg (w.setCell a v) b h := (heap_setCell_other w a b v ha).trans f
theorem Flg.row {w : World} {b k : Nat} {h : Bool} (f : Flg w b h) (cs : Array Value) (hk : b ≠ k) : Flg (w.setRow k cs) b h := (Go.setRow_other w k b cs hk).trans f
theorem Flg.new (w : World) (h : Bool) : Flg (w.alloc (.cells #[.bool h] 31)) w.heap.size h := heap_alloc_new w _
theorem Flg.upd {w w' : World} {b : Nat} {h : Bool} (f : Flg w b h) {c : Addr} {v : Bool} (u : Upd c v w w') (hn : b ≠ c.block) : Flg w' b h := (u.block f.lt hn).trans f
/-- Its own flag, raised or not. -/
theorem Flg.hit {w w' : World} {b : Nat} {h h' : Bool} (f : Flg w b h) (u : Upd ⟨b, 0, none⟩ h' w w') : Flg w' b h' := by
  have e : (w.setCell ⟨b, 0, none⟩ (.bool h')).heap[b]? = some (.cells #[.bool h'] 31 (0, 0)) := heap_setCell_same w b 0 _ _ (.bool h') f
  have hl : b < w.heap.size := f.lt
  exact (Below.block u b hl).trans e
/-- Where the flag's cell is new, all that was there is left. -/
theorem own_upd {c : Addr} {h : Bool} {w w1 w2 : World} (b : Below w.heap.size w w1) (hc : w.heap.size ≤ c.block) (u : Upd c h w1 w2) : Below w.heap.size w w2 :=
  b.trans (((Below.refl w.heap.size w1).setCell hc _).trans (Below.mono u b.size))
open Go in
/-- An operation of a plain region, by its value. -/
theorem wpList_val {P : Program} {ops : Array Oper} {Q : Exit → Act → World → Prop} {a : Act} {w : World} {rest : List Oper} {o : Oper} {v : Value}
    (hw : Region.wanted o (yielded ops a.tmps) = true) (hy : (execOp a.eval o).run P w = .ok (.value v) w) (h : wpList P ops Q rest (a.put o.dst v) w) : wpList P ops Q (o :: rest) a w :=
  wpList_step fun K hK => by
    rw [if_pos hw]
    unfold Oper.wp
    rw [hy]
    exact hK _ _ h
open Go in
/-- .. that is not wanted. -/
theorem wpList_skip {P : Program} {ops : Array Oper} {Q : Exit → Act → World → Prop} {a : Act} {w : World} {rest : List Oper} {o : Oper}
    (hw : Region.wanted o (yielded ops a.tmps) = false) (h : wpList P ops Q rest (a.put o.dst undef) w) : wpList P ops Q (o :: rest) a w :=
  wpList_step fun K hK => by
    rw [if_neg (by rw [hw]; decide)]
    exact hK _ _ h
open Go in
/-- .. by its value and its world. -/
theorem wpList_act {P : Program} {ops : Array Oper} {Q : Exit → Act → World → Prop} {a : Act} {w w' : World} {rest : List Oper} {o : Oper} {v : Value}
    (hw : Region.wanted o (yielded ops a.tmps) = true) (hy : (execOp a.eval o).run P w = .ok (.value v) w') (h : wpList P ops Q rest (a.put o.dst v) w') : wpList P ops Q (o :: rest) a w :=
  wpList_step fun K hK => by
    rw [if_pos hw]
    unfold Oper.wp
    rw [hy]
    exact hK _ _ h
open Go in
/-- .. by its world. -/
theorem wpList_done {P : Program} {ops : Array Oper} {Q : Exit → Act → World → Prop} {a : Act} {w w' : World} {rest : List Oper} {o : Oper}
    (hw : Region.wanted o (yielded ops a.tmps) = true) (hy : (execOp a.eval o).run P w = .ok .skip w') (h : wpList P ops Q rest (a.put o.dst undef) w') : wpList P ops Q (o :: rest) a w :=
  wpList_step fun K hK => by
    rw [if_pos hw]
    unfold Oper.wp
    rw [hy]
    exact hK _ _ h
open Go in
theorem run_store_row {P : Program} {ev : Operand → Value} {o : Oper} {w : World} (ty : TypeId) (x y : Operand) (ho : o.op = .store ty x y)
    (g : Nat) (hx : ev x = .pointer (some ⟨g, 0, none⟩)) {T n : Nat} {F f : Nat → Int} (hy : ev y = .agg (arrv n F)) (hg : Blk w g T n f) (hi : (P.info? ty).map (·.size) = some n) :
    (execOp ev o).run P w = .ok .skip (w.setRow g (arrv n F)) := by
  unfold execOp
  simp only [ho, hx, hy, Instr.storeAt, Instr.sureAddr, Sem.run_bind, Sem.run_pure, Result.andThen_ok, run_storeVar_row (P := P) w g T ty (arrv n f) (arrv n F) hg (hi.trans (by rw [arrv_size])) (by rw [arrv_size, arrv_size]) (oneCell_arrv n F)]
open Go in
/-- A region that draws its order: one of two may come up. -/
theorem wpAnyM_twoS {P : Program} {ops : Array Oper} {Q : Exit → Act → World → Prop} {md : Region.Mode} {L : Nat} {S : World → Prop} (i j : Nat) {oi oj : Oper} {fuel : Nat} {listed : Array Bool} {a : Act} {w : World} (hi : ops.toList[i]? = some oi) (hj : ops.toList[j]? = some oj) (hr : Region.ready md ops listed = [i, j])
    (h1 : ∀ K : Act → World → Prop, Shut (∀ a w, S w → (S w → wpAnyM P md ops Q S L fuel (listed.setIfInBounds i true) a w) → K a w) →
      if Region.wanted oi (yielded ops a.tmps) = true then Oper.wp P oi a w K Q else K (a.put oi.dst undef) w)
    (h2 : ∀ K : Act → World → Prop, Shut (∀ a w, S w → (S w → wpAnyM P md ops Q S L fuel (listed.setIfInBounds j true) a w) → K a w) →
      if Region.wanted oj (yielded ops a.tmps) = true then Oper.wp P oj a w K Q else K (a.put oj.dst undef) w) :
    wpAnyM P md ops Q S L (fuel + 1) listed a w := by
  have hi' : ops[i]? = some oi := by rwa [Array.getElem?_toList] at hi
  have hj' : ops[j]? = some oj := by rwa [Array.getElem?_toList] at hj
  refine ⟨fun h0 => (by rw [hr] at h0; cases h0), fun k hk => ?_⟩
  rw [hr] at hk
  have hk' : k = i ∨ k = j := by simpa using hk
  rcases hk' with rfl | rfl
  · exact wpOp_step hi' (fun K' hK => h1 K' (fun a w hS hW => hK a w ⟨.inr hS, hW hS⟩))
  · exact wpOp_step hj' (fun K' hK => h2 K' (fun a w hS hW => hK a w ⟨.inr hS, hW hS⟩))
theorem if_pos_of {b : Bool} {p q : Prop} (h : b = true) (hp : p) : if b = true then p else q := by rw [if_pos h]; exact hp
open Go in
theorem wp_of_run {P : Program} {o : Oper} {a : Act} {w w' : World} {K : Act → World → Prop} {Q : Exit → Act → World → Prop} (hy : (execOp a.eval o).run P w = .ok .skip w') (h : K (a.put o.dst undef) w') : Oper.wp P o a w K Q := by
  unfold Oper.wp
  rw [hy]
  exact h
end Go.Proofs.Ytpbgglkopfjagaa
/- Contract of state.Bounds. -/
namespace Go.Proofs.Ytpbgglkopfjagaa
open Go.RowKit
set_option maxRecDepth 100000
theorem ibox : (Try.prog.info? 112).map (·.size) = some 24 := by kernel_rfl
theorem zvec24 : (#[.int .i64 0, .int .i64 0, .int .i64 0, .int .i64 0, .int .i64 0, .int .i64 0, .int .i64 0, .int .i64 0, .int .i64 0, .int .i64 0, .int .i64 0, .int .i64 0, .int .i64 0, .int .i64 0, .int .i64 0, .int .i64 0, .int .i64 0, .int .i64 0, .int .i64 0, .int .i64 0, .int .i64 0, .int .i64 0, .int .i64 0, .int .i64 0] : Array Value) = arrv 24 (fun _ => 0) := by kernel_rfl
theorem Blk.belowB {w w' : World} {b T n B : Nat} {f : Nat → Int} (h : Blk w b T n f) (hb : Below B w w') (hB : b < B) : Blk w' b T n f := (hb.block b hB).trans h
/-- From a to b the numbers are m. -/
def filF (f : Nat → Int) (a b : Nat) (m : Int) : Nat → Int := fun i => if a ≤ i ∧ i < b then m else f i
theorem bfill_any (f : Nat → Int) (a b : Nat) (m : Int) (g : Nat) (w : World) (hab : a ≤ b) (hb : b ≤ 24) (hB : Blk w g 112 24 f) :
    Calls Try.prog 78 #[.int .i64 a, .int .i64 b, .int .i64 m, .pointer (some ⟨g, 0, none⟩)] w fun e w' =>
      e = .returned (.tuple #[]) ∧ Below g w w' ∧ w'.heap.size = w.heap.size ∧ Blk w' g 112 24 (filF f a b m) := by
  have HB := Lib.hid hB
  clear hB
  go_enter Try.func78, Try.ntmps78
  go_wp2_with fail
  go_loopw [7] (fun i wr => ∃ k : Nat, a ≤ k ∧ k ≤ b ∧ i = .int .i64 k ∧ Hid (Below g w wr ∧ wr.heap.size = w.heap.size ∧ Blk wr g 112 24 (filF f a k m))) (fun i _ => b - (intOf i).toNat)
  case atStart => exact ⟨a, Nat.le_refl _, hab, rfl, Below.refl _ _, rfl, HB.out.congr fun i hi => by simp [filF]; omega⟩
  case round =>
    obtain ⟨k, hk0, hk, rfl, R⟩ := hrel
    by_cases hlt : k < b
    · have b0 := R.out.2.2.cell (i := k) (by omega)
      have b1 := R.out.2.2.free k
      have d1 : decide (k < b) = true := by simpa using hlt
      go_wp2_with fail
      go_roundw
      case rel =>
        refine ⟨k + 1, by omega, by omega, by go_num, R.out.1.setCell (Nat.le_refl _) _, by rw [setCell_size]; exact R.out.2.1, (R.out.2.2.set k m).congr fun i hi => ?_⟩
        simp only [Go.Proofs.Ytpbgglkopfjagaa.upd, filF]
        by_cases h1 : i = k
        · subst h1; rw [if_pos rfl, if_pos (by omega)]
        · rw [if_neg h1]; split <;> split <;> first | rfl | omega
      case measure => simp [intOf]; omega
    · have hkb : k = b := by omega
      subst hkb
      have d1 : decide (k < k) = false := by simp
      go_wp2_with fail
      go_end0
      exact ⟨rfl, R.out.1, R.out.2.1, R.out.2.2⟩
/-- The box. -/
def boxF : Nat → Int := fun i => if i < 4 then 1073741840 else if i < 7 then 549755813888 else if i < 10 then 9007199254740992 else if i < 13 then 134217728 else if i < 16 then 1073741824 else if i < 22 then 2147483648 else 137438953472
set_option maxHeartbeats 1000000 in
theorem bounds_any (w : World) : Calls Try.prog 62 #[] w fun e w' => e = .returned (.agg (arrv 24 boxF)) ∧ Below w.heap.size w w' := by
  have hmf : ∀ (fn : Fn) (first cap : Array Value) (w : World), (Instr.makeFunc fn first cap).run Try.prog w = .ok (.func fn first cap) w := fun _ _ _ _ => rfl
  have S0 : Blk ((w.alloc (.cells #[.int .i64 0, .int .i64 0, .int .i64 0, .int .i64 0, .int .i64 0, .int .i64 0, .int .i64 0, .int .i64 0, .int .i64 0, .int .i64 0, .int .i64 0, .int .i64 0, .int .i64 0, .int .i64 0, .int .i64 0, .int .i64 0, .int .i64 0, .int .i64 0, .int .i64 0, .int .i64 0, .int .i64 0, .int .i64 0, .int .i64 0, .int .i64 0] 112)).alloc (.cells #[.int .i64 0, .int .i64 0, .int .i64 0, .int .i64 0, .int .i64 0, .int .i64 0, .int .i64 0, .int .i64 0, .int .i64 0, .int .i64 0, .int .i64 0, .int .i64 0, .int .i64 0, .int .i64 0, .int .i64 0, .int .i64 0, .int .i64 0, .int .i64 0, .int .i64 0, .int .i64 0, .int .i64 0, .int .i64 0, .int .i64 0, .int .i64 0] 112)) (w.heap.size + 1) 112 24 (fun _ => 0) := by rw [zvec24]; exact Blk.new1 w _ _ 24 _
  have R0 : Blk ((w.alloc (.cells #[.int .i64 0, .int .i64 0, .int .i64 0, .int .i64 0, .int .i64 0, .int .i64 0, .int .i64 0, .int .i64 0, .int .i64 0, .int .i64 0, .int .i64 0, .int .i64 0, .int .i64 0, .int .i64 0, .int .i64 0, .int .i64 0, .int .i64 0, .int .i64 0, .int .i64 0, .int .i64 0, .int .i64 0, .int .i64 0, .int .i64 0, .int .i64 0] 112)).alloc (.cells #[.int .i64 0, .int .i64 0, .int .i64 0, .int .i64 0, .int .i64 0, .int .i64 0, .int .i64 0, .int .i64 0, .int .i64 0, .int .i64 0, .int .i64 0, .int .i64 0, .int .i64 0, .int .i64 0, .int .i64 0, .int .i64 0, .int .i64 0, .int .i64 0, .int .i64 0, .int .i64 0, .int .i64 0, .int .i64 0, .int .i64 0, .int .i64 0] 112)) w.heap.size 112 24 (fun _ => 0) := by rw [zvec24]; exact (Blk.new w _ 24 _).alloc _
  have B0 : Below w.heap.size w ((w.alloc (.cells #[.int .i64 0, .int .i64 0, .int .i64 0, .int .i64 0, .int .i64 0, .int .i64 0, .int .i64 0, .int .i64 0, .int .i64 0, .int .i64 0, .int .i64 0, .int .i64 0, .int .i64 0, .int .i64 0, .int .i64 0, .int .i64 0, .int .i64 0, .int .i64 0, .int .i64 0, .int .i64 0, .int .i64 0, .int .i64 0, .int .i64 0, .int .i64 0] 112)).alloc (.cells #[.int .i64 0, .int .i64 0, .int .i64 0, .int .i64 0, .int .i64 0, .int .i64 0, .int .i64 0, .int .i64 0, .int .i64 0, .int .i64 0, .int .i64 0, .int .i64 0, .int .i64 0, .int .i64 0, .int .i64 0, .int .i64 0, .int .i64 0, .int .i64 0, .int .i64 0, .int .i64 0, .int .i64 0, .int .i64 0, .int .i64 0, .int .i64 0] 112)) := by (repeat (first | with_reducible exact Below.refl _ _ | with_reducible apply Below.drew | (with_reducible refine below_drewN ?_ _) | (with_reducible refine Below.alloc ?_ (by (try simp) <;> omega) _) | (with_reducible refine Below.setCell ?_ (by (try simp) <;> omega) _)))
  go_enter Try.func62, Try.ntmps62
  go_upto_region 3 with fail
  generalize (w.alloc (.cells #[.int .i64 0, .int .i64 0, .int .i64 0, .int .i64 0, .int .i64 0, .int .i64 0, .int .i64 0, .int .i64 0, .int .i64 0, .int .i64 0, .int .i64 0, .int .i64 0, .int .i64 0, .int .i64 0, .int .i64 0, .int .i64 0, .int .i64 0, .int .i64 0, .int .i64 0, .int .i64 0, .int .i64 0, .int .i64 0, .int .i64 0, .int .i64 0] 112)).alloc (.cells #[.int .i64 0, .int .i64 0, .int .i64 0, .int .i64 0, .int .i64 0, .int .i64 0, .int .i64 0, .int .i64 0, .int .i64 0, .int .i64 0, .int .i64 0, .int .i64 0, .int .i64 0, .int .i64 0, .int .i64 0, .int .i64 0, .int .i64 0, .int .i64 0, .int .i64 0, .int .i64 0, .int .i64 0, .int .i64 0, .int .i64 0, .int .i64 0] 112) = W0 at *
  have S0 := Lib.hid S0
  have R0 := Lib.hid R0
  have B0 := Lib.hid B0
  go_wp2_with fail
  refine (bfill_any _ 0 4 1073741840 (w.heap.size + 1) _ (by decide) (by decide) S0.out).mono ?_; rintro e w1 ⟨rfl, hb1, hz1, S1⟩
  have S1 := Lib.hid S1
  have R1 := Lib.hid (R0.out.belowB hb1 (Nat.lt_succ_self _))
  have B1 := Lib.hid (B0.out.trans (hb1.mono (Nat.le_succ _)))
  clear hb1 hz1 S0 R0 B0
  go_wp2_with fail
  refine (bfill_any _ 4 7 549755813888 (w.heap.size + 1) _ (by decide) (by decide) S1.out).mono ?_; rintro e w2 ⟨rfl, hb2, hz2, S2⟩
  have S2 := Lib.hid S2
  have R2 := Lib.hid (R1.out.belowB hb2 (Nat.lt_succ_self _))
  have B2 := Lib.hid (B1.out.trans (hb2.mono (Nat.le_succ _)))
  clear hb2 hz2 S1 R1 B1
  go_wp2_with fail
  refine (bfill_any _ 7 10 9007199254740992 (w.heap.size + 1) _ (by decide) (by decide) S2.out).mono ?_; rintro e w3 ⟨rfl, hb3, hz3, S3⟩
  have S3 := Lib.hid S3
  have R3 := Lib.hid (R2.out.belowB hb3 (Nat.lt_succ_self _))
  have B3 := Lib.hid (B2.out.trans (hb3.mono (Nat.le_succ _)))
  clear hb3 hz3 S2 R2 B2
  go_wp2_with fail
  refine (bfill_any _ 10 13 134217728 (w.heap.size + 1) _ (by decide) (by decide) S3.out).mono ?_; rintro e w4 ⟨rfl, hb4, hz4, S4⟩
  have S4 := Lib.hid S4
  have R4 := Lib.hid (R3.out.belowB hb4 (Nat.lt_succ_self _))
  have B4 := Lib.hid (B3.out.trans (hb4.mono (Nat.le_succ _)))
  clear hb4 hz4 S3 R3 B3
  go_wp2_with fail
  refine (bfill_any _ 13 16 1073741824 (w.heap.size + 1) _ (by decide) (by decide) S4.out).mono ?_; rintro e w5 ⟨rfl, hb5, hz5, S5⟩
  have S5 := Lib.hid S5
  have R5 := Lib.hid (R4.out.belowB hb5 (Nat.lt_succ_self _))
  have B5 := Lib.hid (B4.out.trans (hb5.mono (Nat.le_succ _)))
  clear hb5 hz5 S4 R4 B4
  go_wp2_with fail
  refine (bfill_any _ 16 22 2147483648 (w.heap.size + 1) _ (by decide) (by decide) S5.out).mono ?_; rintro e w6 ⟨rfl, hb6, hz6, S6⟩
  have S6 := Lib.hid S6
  have R6 := Lib.hid (R5.out.belowB hb6 (Nat.lt_succ_self _))
  have B6 := Lib.hid (B5.out.trans (hb6.mono (Nat.le_succ _)))
  clear hb6 hz6 S5 R5 B5
  go_wp2_with fail
  refine (bfill_any _ 22 24 137438953472 (w.heap.size + 1) _ (by decide) (by decide) S6.out).mono ?_; rintro e w7 ⟨rfl, hb7, hz7, S7⟩
  have S7 := Lib.hid S7
  have R7 := Lib.hid (R6.out.belowB hb7 (Nat.lt_succ_self _))
  have B7 := Lib.hid (B6.out.trans (hb7.mono (Nat.le_succ _)))
  clear hb7 hz7 S6 R6 B6
  have S8 := S7.out.congr (g := boxF) fun i hi => by
    simp only [filF, boxF]
    repeat' split
    all_goals first | rfl | omega
  have R8 := R7.out
  go_wp2_with (first | (refine wpList_load_row rfl 112 _ rfl (w.heap.size + 1) rfl 112 _ (0, 0) _ (S8) Try.underlying112 rfl (ibox.trans (by rw [arrv_size])) ?_) | (refine wpList_store_row rfl 112 _ _ rfl (w.heap.size) _ rfl rfl 112 _ (R8) (ibox.trans (by rw [arrv_size])) (by rw [arrv_size, arrv_size]) (oneCell_arrv _ _) ?_))
  refine bodyPost_ret (results_cell_row Try.results62 _ _ w.heap.size 112 (arrv 24 boxF) (0, 0) _ rfl (setRow_heap _ _ _ _ _ _ R8) Try.underlying112 rfl (ibox.trans (by rw [arrv_size]))) rfl ⟨rfl, ?_⟩
  exact below_row B7.out (Nat.le_refl _) _
end Go.Proofs.Ytpbgglkopfjagaa
/- Plain numbers: the root, bit by bit (no program here). -/
namespace Go.Proofs.Ytpbgglkopfjagaa
/-- One round: the rest, and twice the root so far times a power of two. -/
def rootT (s : Nat × Nat) (k : Nat) : Nat × Nat := if s.1 < s.2 + 4 ^ k then (s.1, s.2 / 2) else (s.1 - (s.2 + 4 ^ k), s.2 / 2 + 4 ^ k)
/-- Behind n of 64 rounds. -/
def rootS (A : Nat) : Nat → Nat × Nat | 0 => (A, 0) | n + 1 => rootT (rootS A n) (63 - n)
def rootV (A : Nat) : Nat := if (rootS A 64).2 < (rootS A 64).1 then (rootS A 64).2 + 1 else (rootS A 64).2
theorem rootT_inv (A m rest r R : Nat) (hr : r = R * 2 ^ (m + 1)) (he : rest + R * R = A) (hlt : A < (R + 2 ^ (m + 1)) * (R + 2 ^ (m + 1))) :
    ∃ R', (rootT (rest, r) m).2 = R' * 2 ^ m ∧ (rootT (rest, r) m).1 + R' * R' = A ∧ A < (R' + 2 ^ m) * (R' + 2 ^ m) := by
  have e4 : 4 ^ m = 2 ^ m * 2 ^ m := by rw [← Nat.mul_pow]
  unfold rootT
  rw [e4]
  rw [Nat.pow_succ] at hr hlt
  generalize 2 ^ m = q at *
  have h2 : r / 2 = R * q := by rw [hr, show R * (q * 2) = (R * q) * 2 from by rw [Nat.mul_assoc], Nat.mul_div_cancel _ (by decide)]
  rw [h2]
  have ex : (R + q) * (R + q) = R * R + 2 * (R * q) + q * q := by grind
  have hr' : r = 2 * (R * q) := by rw [hr]; grind
  by_cases h : rest < r + q * q
  · rw [if_pos h]
    refine ⟨R, rfl, he, ?_⟩
    rw [ex]; omega
  · rw [if_neg h]
    refine ⟨R + q, ?_, ?_, ?_⟩
    · rw [Nat.add_mul]
    · rw [ex]; omega
    · rw [show R + q + q = R + q * 2 from by omega]; exact hlt
theorem rootS_inv (A : Nat) (hA : A < 2 ^ 128) (n : Nat) (hn : n ≤ 64) :
    ∃ R, (rootS A n).2 = R * 2 ^ (64 - n) ∧ (rootS A n).1 + R * R = A ∧ A < (R + 2 ^ (64 - n)) * (R + 2 ^ (64 - n)) := by
  induction n with
  | zero => exact ⟨0, by simp [rootS], by simp [rootS], by rw [Nat.zero_add, ← Nat.pow_add]; exact hA⟩
  | succ n ih =>
    obtain ⟨R, h1, h2, h3⟩ := ih (by omega)
    have e : 64 - n = (63 - n) + 1 := by omega
    rw [e] at h1 h3
    have h := rootT_inv A (63 - n) _ _ R h1 h2 h3
    rw [show 64 - (n + 1) = 63 - n from by omega]
    exact h
theorem rootV_spec (A : Nat) (hA : A < 2 ^ 128) : (rootV A = 0 ∨ rootV A * rootV A < A + rootV A) ∧ A ≤ rootV A * rootV A + rootV A := by
  obtain ⟨R, h1, h2, h3⟩ := rootS_inv A hA 64 (by decide)
  simp only [show 64 - 64 = 0 from rfl, Nat.pow_zero, Nat.mul_one] at h1 h3
  unfold rootV
  rw [h1]
  have ex : (R + 1) * (R + 1) = R * R + 2 * R + 1 := by grind
  by_cases h : R < (rootS A 64).1
  · rw [if_pos h, ex]; omega
  · rw [if_neg h]; omega
/-- All numbers on the way have 128 bits. -/
theorem rootS_bd (A : Nat) (hA : A < 2 ^ 127) (n : Nat) (hn : n < 64) :
    (rootS A n).1 < 2 ^ 127 ∧ (rootS A n).2 + 4 ^ (63 - n) < 2 ^ 128 ∧ (rootS A n).2 < 2 ^ 128 := by
  obtain ⟨R, h1, h2, h3⟩ := rootS_inv A (Nat.lt_trans hA (by decide)) n (by omega)
  have e4 : 4 ^ (63 - n) = 2 ^ (63 - n) * 2 ^ (63 - n) := by rw [← Nat.mul_pow]
  have e2 : 2 ^ (64 - n) = 2 * 2 ^ (63 - n) := by rw [show 64 - n = (63 - n) + 1 from by omega, Nat.pow_succ]; omega
  have hq : 2 ^ (63 - n) ≤ 2 ^ 63 := Nat.pow_le_pow_right (by decide) (by omega)
  rw [e4, h1, e2]
  generalize 2 ^ (63 - n) = q at *
  have hR : R ≤ 13043817825332782212 := by
    rcases Nat.lt_or_ge 13043817825332782212 R with h | h
    · have h4 : 13043817825332782213 * 13043817825332782213 ≤ R * R := Nat.mul_le_mul h h
      have h5 : (2 : Nat) ^ 127 = 170141183460469231731687303715884105728 := by decide
      omega
    · exact h
  have h7 : R * (2 * q) ≤ 13043817825332782212 * (2 * 2 ^ 63) := Nat.mul_le_mul hR (by omega)
  have h8 : q * q ≤ 2 ^ 63 * 2 ^ 63 := Nat.mul_le_mul hq hq
  have h5 : (2 : Nat) ^ 127 = 170141183460469231731687303715884105728 := by decide
  have h9 : (2 : Nat) ^ 128 = 340282366920938463463374607431768211456 := by decide
  have h10 : (2 : Nat) ^ 63 * 2 ^ 63 = 85070591730234615865843651857942052864 := by decide
  have h12 : 13043817825332782212 * (2 * 2 ^ 63) = 240615969168004511538585310832300654592 := by decide
  omega
theorem rootS_end (A : Nat) (hA : A < 2 ^ 127) : (rootS A 64).1 < 2 ^ 127 ∧ (rootS A 64).2 < 2 ^ 64 := by
  obtain ⟨R, h1, h2, h3⟩ := rootS_inv A (Nat.lt_trans hA (by decide)) 64 (by decide)
  simp only [show 64 - 64 = 0 from rfl, Nat.pow_zero, Nat.mul_one] at h1 h3
  rw [h1]
  refine ⟨by omega, ?_⟩
  rcases Nat.lt_or_ge R (2 ^ 64) with h | h
  · exact h
  · have h4 : 2 ^ 64 * 2 ^ 64 ≤ R * R := Nat.mul_le_mul h h
    have h5 : (2 : Nat) ^ 127 = 170141183460469231731687303715884105728 := by decide
    have h6 : (2 : Nat) ^ 64 * 2 ^ 64 = 340282366920938463463374607431768211456 := by decide
    omega
end Go.Proofs.Ytpbgglkopfjagaa
/- Contracts of package wide (8): less, minus, Root. -/
namespace Go.Proofs.Ytpbgglkopfjagaa
open Go.RowKit
set_option maxRecDepth 100000
theorem sub64 (x y b : Nat) (hb : b ≤ 1) (w : World) : (callFunc 86 #[.int .u64 x, .int .u64 y, .int .u64 b]).run Try.prog w =
    .ok (.value (.tuple #[.int .u64 (((x + 18446744073709551616 - y - b) % 18446744073709551616 : Nat) : Int), .int .u64 ((if x < y + b then 1 else 0 : Nat) : Int)])) w := by
  rw [run_callFunc_extern Try.func86 (by kernel_rfl) (by kernel_rfl) (by kernel_rfl) (e := sub64Entry) (by kernel_rfl), run_sub64 x y b hb]
  rfl
/-- Sub64 at whole numbers: what is taken away may be greater. -/
theorem sub64_int (x y b : Int) (x0 : 0 ≤ x) (y0 : 0 ≤ y) (y1 : y < 18446744073709551616) (b0 : 0 ≤ b) (b1 : b ≤ 1) (w : World) : (callFunc 86 #[.int .u64 x, .int .u64 y, .int .u64 b]).run Try.prog w =
    .ok (.value (.tuple #[.int .u64 ((x - y - b) % 18446744073709551616), .int .u64 (if x < y + b then 1 else 0)])) w := by
  obtain ⟨x, rfl⟩ := Int.eq_ofNat_of_zero_le x0
  obtain ⟨y, rfl⟩ := Int.eq_ofNat_of_zero_le y0
  obtain ⟨b, rfl⟩ := Int.eq_ofNat_of_zero_le b0
  rw [sub64 x y b (by omega)]
  have e1 : (((x + 18446744073709551616 - y - b) % 18446744073709551616 : Nat) : Int) = ((x : Int) - y - b) % 18446744073709551616 := by omega
  have e2 : ((if x < y + b then 1 else 0 : Nat) : Int) = if (x : Int) < y + b then 1 else 0 := by
    by_cases h : x < y + b
    · rw [if_pos h, if_pos (by omega)]; rfl
    · rw [if_neg h, if_neg (by omega)]; rfl
  rw [e1, e2]
theorem less_walk (x y u v : Int) (w : World) (r : Bool) (hr : (decide (x < u) || ((x == u) && decide (y < v))) = r) :
    Calls Try.prog 83 #[.agg #[.int .u64 x, .int .u64 y], .agg #[.int .u64 u, .int .u64 v]] w fun e w' =>
      e = .returned (.bool r) ∧ Below w.heap.size w w' := by
  by_cases h1 : x < u
  · have d1 : decide (x < u) = true := by simpa using h1
    rw [d1, Bool.true_or] at hr
    subst hr
    go_enter Try.func83, Try.ntmps83
    go_wp2_with fail
    go_ret
    refine ⟨rfl, ?_⟩
    (repeat (first | with_reducible exact Below.refl _ _ | with_reducible apply Below.drew | (with_reducible refine below_drewN ?_ _) | (with_reducible refine Below.alloc ?_ (by (try simp) <;> omega) _) | (with_reducible refine Below.setCell ?_ (by (try simp) <;> omega) _)))
  · have d1 : decide (x < u) = false := by simpa using h1
    by_cases h2 : x = u
    · subst h2
      by_cases h3 : y < v
      · have d3 : decide (y < v) = true := by simpa using h3
        rw [d1, d3, show (x == x) = true by simp] at hr
        subst hr
        go_enter Try.func83, Try.ntmps83
        go_wp2_with fail
        go_ret
        refine ⟨rfl, ?_⟩
        (repeat (first | with_reducible exact Below.refl _ _ | with_reducible apply Below.drew | (with_reducible refine below_drewN ?_ _) | (with_reducible refine Below.alloc ?_ (by (try simp) <;> omega) _) | (with_reducible refine Below.setCell ?_ (by (try simp) <;> omega) _)))
      · have d3 : decide (y < v) = false := by simpa using h3
        rw [d1, d3, show (x == x) = true by simp] at hr
        subst hr
        go_enter Try.func83, Try.ntmps83
        go_wp2_with fail
        go_ret
        refine ⟨rfl, ?_⟩
        (repeat (first | with_reducible exact Below.refl _ _ | with_reducible apply Below.drew | (with_reducible refine below_drewN ?_ _) | (with_reducible refine Below.alloc ?_ (by (try simp) <;> omega) _) | (with_reducible refine Below.setCell ?_ (by (try simp) <;> omega) _)))
    · have d2 : (x == u) = false := by simpa using h2
      rw [d1, d2] at hr
      subst hr
      go_enter Try.func83, Try.ntmps83
      go_wp2_with fail
      go_ret
      refine ⟨rfl, ?_⟩
      (repeat (first | with_reducible exact Below.refl _ _ | with_reducible apply Below.drew | (with_reducible refine below_drewN ?_ _) | (with_reducible refine Below.alloc ?_ (by (try simp) <;> omega) _) | (with_reducible refine Below.setCell ?_ (by (try simp) <;> omega) _)))
theorem less_any (M N : Int) (w : World) :
    Calls Try.prog 83 #[.agg #[.int .u64 (hi64 M), .int .u64 (lo64 M)], .agg #[.int .u64 (hi64 N), .int .u64 (lo64 N)]] w fun e w' =>
      e = .returned (.bool (decide (M < N))) ∧ Below w.heap.size w w' :=
  less_walk _ _ _ _ w _ (by rw [Bool.eq_iff_iff]; simp; unfold hi64 lo64; omega)
theorem minus_any (M N S : Int) (w : World) (m0 : 0 ≤ M) (m1 : M < 340282366920938463463374607431768211456) (n0 : 0 ≤ N) (hS : M - N = S) (s0 : 0 ≤ S) :
    Calls Try.prog 84 #[.agg #[.int .u64 (hi64 M), .int .u64 (lo64 M)], .agg #[.int .u64 (hi64 N), .int .u64 (lo64 N)]] w fun e w' =>
      e = .returned (.agg #[.int .u64 (hi64 S), .int .u64 (lo64 S)]) ∧ Below w.heap.size w w' := by
  have bM := bits_hl m0 m1
  have bN := bits_hl (M := N) n0 (by omega)
  obtain ⟨br, hbr⟩ : ∃ br : Int, (if lo64 M < lo64 N + 0 then 1 else 0) = br := ⟨_, rfl⟩
  have b01 : 0 ≤ br ∧ br ≤ 1 := by rw [← hbr]; split <;> omega
  have a1 := fun w => sub64_int (lo64 M) (lo64 N) 0 bM.2.2.1 bN.2.2.1 bN.2.2.2 (by decide) (by decide) w
  have a2 := fun w => sub64_int (hi64 M) (hi64 N) br bM.1 bN.1 bN.2.1 b01.1 b01.2 w
  rw [hbr] at a1
  have r1 : (lo64 M - lo64 N - 0) % 18446744073709551616 = lo64 S := by unfold lo64; omega
  have r2 : (hi64 M - hi64 N - br) % 18446744073709551616 = hi64 S := by
    rw [← hbr]; unfold hi64 lo64; split <;> omega
  rw [r1] at a1
  rw [r2] at a2
  obtain ⟨b2, hb2⟩ : ∃ b2 : Int, (if hi64 M < hi64 N + br then 1 else 0) = b2 := ⟨_, rfl⟩
  rw [hb2] at a2
  clear hb2 r1 r2 hbr b01 bM bN hS m0 m1 n0 s0
  go_enter Try.func84, Try.ntmps84
  go_wp2_with fail
  simp [bodyPost, results, Try.results84, go_sem]
  (repeat (first | with_reducible exact Below.refl _ _ | with_reducible apply Below.drew | (with_reducible refine below_drewN ?_ _) | (with_reducible refine Below.alloc ?_ (by (try simp) <;> omega) _) | (with_reducible refine Below.setCell ?_ (by (try simp) <;> omega) _)))
/-- Block b holds a size of 128 bits. -/
def Big (w : World) (b : Nat) (x : Int) : Prop := w.heap[b]? = some (.cells #[.int .u64 (hi64 x), .int .u64 (lo64 x)] 104 (0, 0))
theorem Big.c0 {w : World} {b : Nat} {x : Int} (h : Big w b x) : w.cell? ⟨b, 0, none⟩ = some (.int .u64 (hi64 x)) := by rw [cell_of_row w b 0 _ _ _ h]; rfl
theorem Big.c1 {w : World} {b : Nat} {x : Int} (h : Big w b x) : w.cell? ⟨b, 1, none⟩ = some (.int .u64 (lo64 x)) := by rw [cell_of_row w b 1 _ _ _ h]; rfl
theorem Big.free {w : World} {b : Nat} {x : Int} (h : Big w b x) (i : Nat) : w.frozen? ⟨b, i, none⟩ = false := frozen_of_row w b i _ _ h
theorem Big.lt {w : World} {b : Nat} {x : Int} (h : Big w b x) : b < w.heap.size := World.block_lt_of_cell? w _ h.c0
theorem Big.below {w w' : World} {b : Nat} {x : Int} (h : Big w b x) (hb : Below w.heap.size w w') : Big w' b x := (hb.block b h.lt).trans h
theorem Big.alloc {w : World} {b : Nat} {x : Int} (h : Big w b x) (o : Obj) : Big (w.alloc o) b x := h.below ((Below.refl w.heap.size w).alloc (Nat.le_refl _) o)
theorem Big.new (w : World) (x : Int) : Big (w.alloc (.cells #[.int .u64 (hi64 x), .int .u64 (lo64 x)] 104)) w.heap.size x := heap_alloc_new w _
theorem Big.other {w : World} {b : Nat} {x : Int} (h : Big w b x) {a : Addr} (ha : b ≠ a.block) (v : Value) : Big (w.setCell a v) b x := (heap_setCell_other w a b v ha).trans h
theorem Big.set {w : World} {b : Nat} {x : Int} (h : Big w b x) (y : Int) : Big ((w.setCell ⟨b, 0, none⟩ (.int .u64 (hi64 y))).setCell ⟨b, 1, none⟩ (.int .u64 (lo64 y))) b y := by
  have h1 := heap_setCell_same w b 0 _ _ (.int .u64 (hi64 y)) h
  exact heap_setCell_same _ b 1 _ _ (.int .u64 (lo64 y)) h1
structure RootR (ρ r : Int) (w wr : World) : Prop where
  below : Below w.heap.size w wr
  e : Big wr (w.heap.size + 1) ρ
  r : Big wr (w.heap.size + 1 + 1) r
theorem RootR.bel {ρ r : Int} {w wr w' : World} (s : RootR ρ r w wr) (b : Below wr.heap.size wr w') : RootR ρ r w w' := ⟨Below.after s.below b, s.e.below b, s.r.below b⟩
theorem RootR.setE {ρ r : Int} {w wr : World} (s : RootR ρ r w wr) (y : Int) : RootR y r w ((wr.setCell ⟨w.heap.size + 1, 0, none⟩ (.int .u64 (hi64 y))).setCell ⟨w.heap.size + 1, 1, none⟩ (.int .u64 (lo64 y))) :=
  ⟨(s.below.setCell (by simp) _).setCell (by simp) _, s.e.set y, (s.r.other (by simp) _).other (by simp) _⟩
theorem RootR.setR {ρ r : Int} {w wr : World} (s : RootR ρ r w wr) (y : Int) : RootR ρ y w ((wr.setCell ⟨w.heap.size + 1 + 1, 0, none⟩ (.int .u64 (hi64 y))).setCell ⟨w.heap.size + 1 + 1, 1, none⟩ (.int .u64 (lo64 y))) :=
  ⟨(s.below.setCell (by simp; omega) _).setCell (by simp; omega) _, (s.e.other (by simp) _).other (by simp) _, s.r.set y⟩
theorem RootR.facts {ρ r : Int} {w wr : World} (s : RootR ρ r w wr) : (wr.cell? ⟨w.heap.size + 1, 0, none⟩ = some (.int .u64 (hi64 ρ)) ∧ wr.cell? ⟨w.heap.size + 1, 1, none⟩ = some (.int .u64 (lo64 ρ))) ∧
    (wr.cell? ⟨w.heap.size + 1 + 1, 0, none⟩ = some (.int .u64 (hi64 r)) ∧ wr.cell? ⟨w.heap.size + 1 + 1, 1, none⟩ = some (.int .u64 (lo64 r))) ∧
    (wr.frozen? ⟨w.heap.size + 1, 0, none⟩ = false ∧ wr.frozen? ⟨w.heap.size + 1, 1, none⟩ = false) ∧ (wr.frozen? ⟨w.heap.size + 1 + 1, 0, none⟩ = false ∧ wr.frozen? ⟨w.heap.size + 1 + 1, 1, none⟩ = false) ∧ w.heap.size + 1 + 1 < wr.heap.size :=
  ⟨⟨s.e.c0, s.e.c1⟩, ⟨s.r.c0, s.r.c1⟩, ⟨s.e.free _, s.e.free _⟩, ⟨s.r.free _, s.r.free _⟩, s.r.lt⟩
theorem big_facts {w : World} {b : Nat} {x : Int} (h : Big w b x) : w.cell? ⟨b, 0, none⟩ = some (.int .u64 (hi64 x)) ∧ w.cell? ⟨b, 1, none⟩ = some (.int .u64 (lo64 x)) ∧ b < w.heap.size := ⟨h.c0, h.c1, h.lt⟩
theorem rootT_yes {ρ r q : Nat} (h : ρ < r + q) {k : Nat} (hq : q = 4 ^ k) : rootT (ρ, r) k = (ρ, r / 2) := by
  unfold rootT; rw [← hq]; exact if_pos h
theorem rootT_no {ρ r q : Nat} (h : ¬ ρ < r + q) {k : Nat} (hq : q = 4 ^ k) : rootT (ρ, r) k = (ρ - (r + q), r / 2 + q) := by
  unfold rootT; rw [← hq]; exact if_neg h
set_option maxHeartbeats 8000000 in
theorem wroot_any (A : Int) (w : World) (a0 : 0 ≤ A) (a1 : A < 170141183460469231731687303715884105728) :
    Calls Try.prog 81 #[.agg #[.int .i64 (hi64 A), .int .u64 (lo64 A)]] w fun e w' =>
      e = .returned (.tuple #[.int .i64 (r64V (rootV A.toNat : Nat)), .bool (r64F (rootV A.toNat : Nat))]) ∧ Below w.heap.size w w' := by
  have p127 : (2 : Nat) ^ 127 = 170141183460469231731687303715884105728 := by decide
  have p128 : (2 : Nat) ^ 128 = 340282366920938463463374607431768211456 := by decide
  obtain ⟨N, rfl⟩ := Int.eq_ofNat_of_zero_le a0
  rw [Int.toNat_natCast]
  have HN : Hid (N < 2 ^ 127) := Lib.hid (by omega)
  have d0 : decide (hi64 (N : Int) < 0) = false := by unfold hi64; simp; omega
  have u1 : IntKind.u64.wrap (hi64 (N : Int)) = hi64 (N : Int) := by rw [IntKind.wrap_u64]; unfold hi64; omega
  have P127 := Lib.hid p127
  have P128 := Lib.hid p128
  clear p127 p128 a0 a1
  go_enter Try.func81, Try.ntmps81
  go_wp2_with fail
  go_loopw [6] (fun i wr => ∃ n : Nat, n ≤ 64 ∧ i = .int .i64 (126 - 2 * (n : Int)) ∧ Hid (RootR ((rootS N n).1 : Nat) ((rootS N n).2 : Nat) w wr)) (fun i _ => (intOf i + 2).toNat)
  case atStart =>
    refine ⟨0, by omega, rfl, ⟨by (repeat (first | with_reducible exact Below.refl _ _ | with_reducible apply Below.drew | (with_reducible refine below_drewN ?_ _) | (with_reducible refine Below.alloc ?_ (by (try simp) <;> omega) _) | (with_reducible refine Below.setCell ?_ (by (try simp) <;> omega) _))), ?_, ?_⟩⟩
    · have h := (Big.new (w.alloc (.cells #[.int .i64 (hi64 (N : Int)), .int .u64 (lo64 (N : Int))] 74)) (N : Int)).alloc (.cells #[.int .u64 0, .int .u64 0] 104)
      rwa [show (w.alloc (.cells #[.int .i64 (hi64 (N : Int)), .int .u64 (lo64 (N : Int))] 74)).heap.size = w.heap.size + 1 from by simp] at h
    · have h := Big.new ((w.alloc (.cells #[.int .i64 (hi64 (N : Int)), .int .u64 (lo64 (N : Int))] 74)).alloc (.cells #[.int .u64 (hi64 (N : Int)), .int .u64 (lo64 (N : Int))] 104)) 0
      rwa [show ((w.alloc (.cells #[.int .i64 (hi64 (N : Int)), .int .u64 (lo64 (N : Int))] 74)).alloc (.cells #[.int .u64 (hi64 (N : Int)), .int .u64 (lo64 (N : Int))] 104)).heap.size = w.heap.size + 1 + 1 from by simp] at h
  case round =>
    obtain ⟨n, hn, rfl, R⟩ := hrel
    by_cases hlt : n < 64
    · obtain ⟨b1, b2, b3⟩ := rootS_bd N HN.out n hlt
      have hst : rootS N (n + 1) = rootT (rootS N n) (63 - n) := rfl
      obtain ⟨q, hq⟩ : ∃ q : Nat, 4 ^ (63 - n) = q := ⟨_, rfl⟩
      obtain ⟨ρ, hρ⟩ : ∃ ρ : Nat, (rootS N n).1 = ρ := ⟨_, rfl⟩
      obtain ⟨r, hr⟩ : ∃ r : Nat, (rootS N n).2 = r := ⟨_, rfl⟩
      rw [show rootS N n = (ρ, r) from by rw [← hρ, ← hr]] at hst
      rw [hρ, hr] at R
      rw [hq, hr] at b2
      rw [hρ] at b1
      rw [hr] at b3
      have hsh : (1 : Int) * 2 ^ (126 - 2 * (n : Int)).toNat = (q : Int) := by
        rw [show (126 - 2 * (n : Int)).toNat = 2 * (63 - n) from by omega, Int.one_mul, ← hq, Int.pow_mul]; simp
      obtain ⟨r2, hr2⟩ : ∃ r2 : Nat, r / 2 = r2 := ⟨_, rfl⟩
      obtain ⟨ρ2, hρ2⟩ : ∃ ρ2 : Nat, ρ - (r + q) = ρ2 := ⟨_, rfl⟩
      obtain ⟨r3, hr3⟩ : ∃ r3 : Nat, r2 + q = r3 := ⟨_, rfl⟩
      have hhalf : (r : Int) / 2 ^ (1 : Int).toNat = (r2 : Int) := by rw [← hr2]; simp
      have b6 : r3 < 340282366920938463463374607431768211456 ∧ r2 ≤ r3 := by have := P128.out; omega
      have HR2 := Lib.hid hr2
      have HP2 := Lib.hid hρ2
      have HR3 := Lib.hid hr3
      have HSH := Lib.hid hsh
      have HHF := Lib.hid hhalf
      have HQ := Lib.hid hq
      have HST := Lib.hid hst
      have b4 : ρ < 170141183460469231731687303715884105728 := by have := P127.out; omega
      have b5 : r + q < 340282366920938463463374607431768211456 := by have := P128.out; omega
      have g0 : decide (0 ≤ 126 - 2 * (n : Int)) = true := by simp; omega
      clear hρ hr hq hst hsh hhalf b1 b2 b3 d0 u1 hr2 hρ2 hr3
      obtain ⟨⟨e0, e1⟩, ⟨r0, r1⟩, ⟨fe0, fe1⟩, ⟨fr0, fr1⟩, hsz⟩ := R.out.facts
      go_wp2_with fail
      refine (shl_any 1 (126 - 2 * (n : Int)) q _ (by decide) (by decide) (by omega) (by omega) HSH.out (by omega)).mono ?_; rintro e w1 ⟨rfl, hb1⟩
      have R1 := Lib.hid ((R.out.bel hb1).bel ((Below.refl w1.heap.size w1).alloc (Nat.le_refl _) (.cells #[.int .u64 (hi64 (q : Int)), .int .u64 (lo64 (q : Int))] 104)))
      have Q1 := Lib.hid (Big.new w1 (q : Int))
      have hqn : Hid (w1.heap.size ≠ w.heap.size + 1 + 1) := Lib.hid (by have := hb1.size; omega)
      have hne : Hid (w1.heap.size ≠ w.heap.size + 1) := Lib.hid (by have := hb1.size; omega)
      clear hb1 R e0 e1 r0 r1 fe0 fe1 fr0 fr1
      obtain ⟨⟨e0, e1⟩, ⟨r0, r1⟩, ⟨fe0, fe1⟩, ⟨fr0, fr1⟩, hsz⟩ := R1.out.facts
      obtain ⟨q0, q1, qz⟩ := big_facts Q1.out
      go_upto_region 8 with fail
      obtain ⟨bq, hbq⟩ : ∃ bq, w1.heap.size = bq := ⟨_, rfl⟩
      rw [hbq] at Q1 q0 q1 qz hqn hne ⊢
      generalize w1.alloc (.cells #[.int .u64 (hi64 (q : Int)), .int .u64 (lo64 (q : Int))] 104) = W1 at *
      clear hbq
      have kr := bits_hl (M := (r : Int)) (by omega) (by omega)
      have kq := bits_hl (M := (q : Int)) (by omega) (by omega)
      have lr := hilo (r : Int)
      have lq := hilo (q : Int)
      have PL := Lib.hid (fun w => plus_any _ _ _ _ ((r : Int) + q) w kr.1 kr.2.2.1 kr.2.2.2 kq.1 kq.2.2.1 kq.2.2.2 (by omega) (by omega))
      have SR := Lib.hid (fun w => shr_any _ _ 1 (r : Int) (r2 : Int) w kr.1 kr.2.1 kr.2.2.1 kr.2.2.2 (by decide) (by decide) lr HHF.out)
      clear kr kq lr lq
      go_wp2_with fail
      refine (PL.out _).mono ?_; rintro e w2 ⟨rfl, hb2⟩
      have R2 := Lib.hid ((R1.out.bel hb2).bel ((Below.refl w2.heap.size w2).alloc (Nat.le_refl _) (.cells #[.int .u64 (hi64 ((r : Int) + q)), .int .u64 (lo64 ((r : Int) + q))] 104)))
      have Q2 := Lib.hid ((Q1.out.below hb2).alloc (.cells #[.int .u64 (hi64 ((r : Int) + q)), .int .u64 (lo64 ((r : Int) + q))] 104))
      have X2 := Lib.hid (Big.new w2 ((r : Int) + q))
      have hxn : Hid (w2.heap.size ≠ w.heap.size + 1 + 1) := Lib.hid (by have := hb2.size; omega)
      clear hb2 R1 Q1 e0 e1 r0 r1 fe0 fe1 fr0 fr1 q0 q1 qz hsz
      obtain ⟨⟨e0, e1⟩, ⟨r0, r1⟩, ⟨fe0, fe1⟩, ⟨fr0, fr1⟩, hsz⟩ := R2.out.facts
      obtain ⟨q0, q1, qz⟩ := big_facts Q2.out
      obtain ⟨x0, x1, xz⟩ := big_facts X2.out
      go_upto_region 9 with fail
      obtain ⟨bx, hbx⟩ : ∃ bx, w2.heap.size = bx := ⟨_, rfl⟩
      rw [hbx] at X2 x0 x1 xz hxn ⊢
      generalize w2.alloc (.cells #[.int .u64 (hi64 ((r : Int) + q)), .int .u64 (lo64 ((r : Int) + q))] 104) = W2 at *
      clear hbx
      go_wp2_with fail
      refine (SR.out _).mono ?_; rintro e w3 ⟨rfl, hb3⟩
      have R3' := R2.out.bel hb3
      have R3 := Lib.hid (R3'.setR (r2 : Int))
      have hq3 := hqn.out
      have hx3 := hxn.out
      have Q3 := Lib.hid (((Q2.out.below hb3).other (a := ⟨w.heap.size + 1 + 1, 0, none⟩) hq3 (.int .u64 (hi64 (r2 : Int)))).other (a := ⟨w.heap.size + 1 + 1, 1, none⟩) hq3 (.int .u64 (lo64 (r2 : Int))))
      have X3 := Lib.hid (((X2.out.below hb3).other (a := ⟨w.heap.size + 1 + 1, 0, none⟩) hx3 (.int .u64 (hi64 (r2 : Int)))).other (a := ⟨w.heap.size + 1 + 1, 1, none⟩) hx3 (.int .u64 (lo64 (r2 : Int))))
      clear e0 e1 r0 r1 fe0 fe1 fr0 fr1 q0 q1 qz hsz x0 x1 xz
      obtain ⟨⟨e0, e1⟩, ⟨r0, r1⟩, ⟨fe0, fe1⟩, ⟨fr0, fr1⟩, hsz⟩ := R3'.facts
      clear hb3 R2 Q2 X2 R3' PL SR
      go_upto_region 10 with fail
      generalize (w3.setCell ⟨w.heap.size + 1 + 1, 0, none⟩ (.int .u64 (hi64 (r2 : Int)))).setCell ⟨w.heap.size + 1 + 1, 1, none⟩ (.int .u64 (lo64 (r2 : Int))) = W3 at *
      clear e0 e1 r0 r1 fe0 fe1 fr0 fr1 hsz
      obtain ⟨⟨e0, e1⟩, ⟨r0, r1⟩, ⟨fe0, fe1⟩, ⟨fr0, fr1⟩, hsz⟩ := R3.out.facts
      obtain ⟨q0, q1, qz⟩ := big_facts Q3.out
      obtain ⟨x0, x1, xz⟩ := big_facts X3.out
      have kz : (((r + q : Nat) : Int)) = (r : Int) + q := by omega
      by_cases hd : ρ < r + q
      · have d1 : decide ((ρ : Int) < (r : Int) + q) = true := by simp; omega
        have HT := Lib.hid (rootT_yes hd HQ.out.symm)
        clear kz hd
        go_wp2_with fail
        refine (less_any (ρ : Int) ((r : Int) + q) _).mono ?_; rintro e w4 ⟨rfl, hb4⟩
        have R4 := Lib.hid (R3.out.bel hb4)
        clear hb4 e0 e1 r0 r1 fe0 fe1 fr0 fr1 hsz q0 q1 qz x0 x1 xz
        go_wp2_with fail
        go_roundw
        case rel =>
          refine ⟨n + 1, by omega, by congr 1; omega, ?_⟩
          rw [HST.out, HT.out, HR2.out]
          exact R4.out
        case measure => simp [intOf]; omega
      · have d1 : decide ((ρ : Int) < (r : Int) + q) = false := by simp; omega
        have HT := Lib.hid (rootT_no hd HQ.out.symm)
        have hs : (ρ : Int) - ((r : Int) + q) = (ρ2 : Int) := by have := HP2.out; omega
        have MN := Lib.hid (fun w => minus_any (ρ : Int) ((r : Int) + q) _ w (by omega) (by omega) (by omega) hs (by omega))
        have kr := bits_hl (M := (r2 : Int)) (by omega) (by omega)
        have kq := bits_hl (M := (q : Int)) (by omega) (by omega)
        have lr := hilo (r2 : Int)
        have lq := hilo (q : Int)
        have PL := Lib.hid (fun w => plus_any _ _ _ _ (r3 : Int) w kr.1 kr.2.2.1 kr.2.2.2 kq.1 kq.2.2.1 kq.2.2.2 (by have := HR3.out; omega) (by omega))
        clear kz hd hs kr kq lr lq
        go_wp2_with fail
        refine (less_any (ρ : Int) ((r : Int) + q) _).mono ?_; rintro e w4 ⟨rfl, hb4⟩
        have R4 := Lib.hid (R3.out.bel hb4)
        have Q4 := Lib.hid (Q3.out.below hb4)
        have X4 := Lib.hid (X3.out.below hb4)
        clear hb4 e0 e1 r0 r1 fe0 fe1 fr0 fr1 hsz q0 q1 qz x0 x1 xz
        obtain ⟨⟨e0, e1⟩, ⟨r0, r1⟩, ⟨fe0, fe1⟩, ⟨fr0, fr1⟩, hsz⟩ := R4.out.facts
        obtain ⟨x0, x1, xz⟩ := big_facts X4.out
        go_wp2_with fail
        refine (MN.out _).mono ?_; rintro e w5 ⟨rfl, hb5⟩
        have R5' := R4.out.bel hb5
        have R5 := Lib.hid (R5'.setE (ρ2 : Int))
        have hq5 := hne.out
        have Q5 := Lib.hid (((Q4.out.below hb5).other (a := ⟨w.heap.size + 1, 0, none⟩) hq5 (.int .u64 (hi64 (ρ2 : Int)))).other (a := ⟨w.heap.size + 1, 1, none⟩) hq5 (.int .u64 (lo64 (ρ2 : Int))))
        clear e0 e1 r0 r1 fe0 fe1 fr0 fr1 hsz x0 x1 xz
        obtain ⟨⟨e0, e1⟩, ⟨r0, r1⟩, ⟨fe0, fe1⟩, ⟨fr0, fr1⟩, hsz⟩ := R5'.facts
        clear hb5 R4 Q4 X4 R5' MN hq5
        go_upto_region 12 with fail
        generalize (w5.setCell ⟨w.heap.size + 1, 0, none⟩ (.int .u64 (hi64 (ρ2 : Int)))).setCell ⟨w.heap.size + 1, 1, none⟩ (.int .u64 (lo64 (ρ2 : Int))) = W5 at *
        clear e0 e1 r0 r1 fe0 fe1 fr0 fr1 hsz
        obtain ⟨⟨e0, e1⟩, ⟨r0, r1⟩, ⟨fe0, fe1⟩, ⟨fr0, fr1⟩, hsz⟩ := R5.out.facts
        obtain ⟨q0, q1, qz⟩ := big_facts Q5.out
        go_wp2_with fail
        refine (PL.out _).mono ?_; rintro e w6 ⟨rfl, hb6⟩
        have R6' := R5.out.bel hb6
        have R6 := Lib.hid (R6'.setR (r3 : Int))
        clear e0 e1 r0 r1 fe0 fe1 fr0 fr1 hsz q0 q1 qz
        obtain ⟨⟨e0, e1⟩, ⟨r0, r1⟩, ⟨fe0, fe1⟩, ⟨fr0, fr1⟩, hsz⟩ := R6'.facts
        clear hb6 R5 Q5 R6' PL
        go_wp2_with fail
        go_roundw
        case rel =>
          refine ⟨n + 1, by omega, by congr 1; omega, ?_⟩
          rw [HST.out, HT.out, HR2.out, HP2.out, HR3.out]
          exact R6.out
        case measure => simp [intOf]; omega
    · have hn64 : n = 64 := by omega
      subst hn64
      rw [show (126 - 2 * ((64 : Nat) : Int)) = -2 from rfl]
      obtain ⟨b1, b2⟩ := rootS_end N HN.out
      obtain ⟨ρ, hρ⟩ : ∃ ρ : Nat, (rootS N 64).1 = ρ := ⟨_, rfl⟩
      obtain ⟨r, hr⟩ : ∃ r : Nat, (rootS N 64).2 = r := ⟨_, rfl⟩
      have HV : Hid (rootV N = if r < ρ then r + 1 else r) := by rw [← hρ, ← hr]; exact Lib.hid rfl
      rw [hρ, hr] at R
      rw [hρ] at b1
      rw [hr] at b2
      clear hρ hr d0 u1 hn hlt
      obtain ⟨⟨e0, e1⟩, ⟨r0, r1⟩, ⟨fe0, fe1⟩, ⟨fr0, fr1⟩, hsz⟩ := R.out.facts
      have b2 : r < 18446744073709551616 := by have : (2 : Nat) ^ 64 = 18446744073709551616 := by decide
                                               omega
      by_cases hd : r < ρ
      · have d1 : decide (r < ρ) = true := by simp; omega
        have kr := bits_hl (M := (r : Int)) (by omega) (by omega)
        have k1 := bits_hl (M := (r : Int) + 1) (by omega) (by omega)
        have lr := hilo (r : Int)
        have PL := Lib.hid (fun w => plus_any (hi64 (r : Int)) (lo64 (r : Int)) 0 1 ((r : Int) + 1) w kr.1 kr.2.2.1 kr.2.2.2 (by decide) (by decide) (by decide) (by omega) (by omega))
        have SG := Lib.hid (fun w => signed64_any (hi64 ((r : Int) + 1)) (lo64 ((r : Int) + 1)) false w k1.2.2.1 k1.2.2.2)
        have hs := s64_r64 ((r : Int) + 1) false (by omega) (by omega)
        have HS := Lib.hid hs
        have HV2 : Hid (((rootV N : Nat) : Int) = (r : Int) + 1) := Lib.hid (by rw [HV.out, if_pos hd]; simp)
        clear kr k1 lr hs hd b1 b2
        go_wp2_with fail
        refine (less_any (r : Int) (ρ : Int) _).mono ?_; rintro e w4 ⟨rfl, hb4⟩
        have R4 := Lib.hid (R.out.bel hb4)
        clear hb4 e0 e1 r0 r1 fe0 fe1 fr0 fr1 hsz R
        obtain ⟨⟨e0, e1⟩, ⟨r0, r1⟩, ⟨fe0, fe1⟩, ⟨fr0, fr1⟩, hsz⟩ := R4.out.facts
        go_wp2_with fail
        refine (PL.out _).mono ?_; rintro e w6 ⟨rfl, hb6⟩
        have R6' := R4.out.bel hb6
        have R6 := Lib.hid (R6'.setR ((r : Int) + 1))
        clear e0 e1 r0 r1 fe0 fe1 fr0 fr1 hsz
        obtain ⟨⟨e0, e1⟩, ⟨r0, r1⟩, ⟨fe0, fe1⟩, ⟨fr0, fr1⟩, hsz⟩ := R6'.facts
        clear hb6 R4 R6' PL
        go_upto_region 15 with fail
        generalize (w6.setCell ⟨w.heap.size + 1 + 1, 0, none⟩ (.int .u64 (hi64 ((r : Int) + 1)))).setCell ⟨w.heap.size + 1 + 1, 1, none⟩ (.int .u64 (lo64 ((r : Int) + 1))) = W6 at *
        clear e0 e1 r0 r1 fe0 fe1 fr0 fr1 hsz
        obtain ⟨⟨e0, e1⟩, ⟨r0, r1⟩, ⟨fe0, fe1⟩, ⟨fr0, fr1⟩, hsz⟩ := R6.out.facts
        go_wp2_with fail
        refine (SG.out _).mono ?_; rintro e w7 ⟨rfl, hb7⟩
        have B7 := Lib.hid (R6.out.bel hb7).below
        clear hb7
        go_wp2_with fail
        go_ret2
        refine ⟨?_, B7.out⟩
        rw [HS.out.1, HS.out.2, HV2.out]; rfl
      · have d1 : decide (r < ρ) = false := by simp; omega
        have kr := bits_hl (M := (r : Int)) (by omega) (by omega)
        have SG := Lib.hid (fun w => signed64_any (hi64 (r : Int)) (lo64 (r : Int)) false w kr.2.2.1 kr.2.2.2)
        have hs := s64_r64 (r : Int) false (by omega) (by omega)
        have HS := Lib.hid hs
        have HV2 : Hid (((rootV N : Nat) : Int) = (r : Int)) := Lib.hid (by rw [HV.out, if_neg hd])
        clear kr hs hd b1 b2
        go_wp2_with fail
        refine (less_any (r : Int) (ρ : Int) _).mono ?_; rintro e w4 ⟨rfl, hb4⟩
        have R4 := Lib.hid (R.out.bel hb4)
        clear hb4 e0 e1 r0 r1 fe0 fe1 fr0 fr1 hsz R
        obtain ⟨⟨e0, e1⟩, ⟨r0, r1⟩, ⟨fe0, fe1⟩, ⟨fr0, fr1⟩, hsz⟩ := R4.out.facts
        go_wp2_with fail
        refine (SG.out _).mono ?_; rintro e w7 ⟨rfl, hb7⟩
        have B7 := Lib.hid (R4.out.bel hb7).below
        clear hb7
        go_wp2_with fail
        go_ret2
        refine ⟨?_, B7.out⟩
        rw [HS.out.1, HS.out.2, HV2.out]; rfl
end Go.Proofs.Ytpbgglkopfjagaa
