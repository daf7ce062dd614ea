/- Arrays of int64 as functions: the cells of a block; small laws. -/
import Derived.Test.YtcbklolfibdffaaDot
import Derived.Test.YtcbklolfibdffaaStepP
import Derived.Test.YtcbklolfibdffaaZero
import Derived.Laws.Tables
import Derived.Deep.WholeRow
namespace Go.Proofs.Ytcbklolfibdffaa
open Go.RowKit
/-- n numbers, as cells. -/
def arrv (n : Nat) (f : Nat → Int) : Array Value := Array.ofFn (n := n) fun i => .int .i64 (f i)
theorem arrv_size (n : Nat) (f : Nat → Int) : (arrv n f).size = n := by simp [arrv]
theorem arrv_get {n : Nat} {f : Nat → Int} {i : Nat} (h : i < n) : (arrv n f)[i]? = some (.int .i64 (f i)) := by simp [arrv, h]
theorem arrv_set (n : Nat) (f : Nat → Int) (j : Nat) (v : Int) : (arrv n f).setIfInBounds j (.int .i64 v) = arrv n (upd f j v) := by
  apply Array.ext_getElem?
  intro i
  rw [Array.getElem?_setIfInBounds]
  by_cases hi : i < n
  · rw [arrv_get hi]
    by_cases hj : j = i
    · subst hj; rw [if_pos rfl, arrv_get hi, arrv_size, if_pos hi]; simp [upd]
    · rw [if_neg hj, arrv_get hi]; simp [upd, show ¬ i = j by omega]
  · rw [Array.getElem?_eq_none (by rw [arrv_size]; omega)]
    rw [Array.getElem?_eq_none (xs := arrv n (upd f j v)) (by rw [arrv_size]; omega)]
    split
    · rw [arrv_size, if_neg (by omega)]
    · rfl
theorem arrv_congr {n : Nat} {f g : Nat → Int} (h : ∀ i, i < n → f i = g i) : arrv n f = arrv n g := by
  apply Array.ext_getElem?
  intro i
  by_cases hi : i < n
  · rw [arrv_get hi, arrv_get hi, h i hi]
  · rw [Array.getElem?_eq_none (by rw [arrv_size]; omega), Array.getElem?_eq_none (by rw [arrv_size]; omega)]
theorem arrv_inj {n : Nat} {f g : Nat → Int} (h : arrv n f = arrv n g) {i : Nat} (hi : i < n) : f i = g i := by
  have := arrv_get (f := f) hi
  rw [h, arrv_get hi] at this
  simpa using this.symm
/-- Block b holds the numbers f. -/
def Blk (w : World) (b : Nat) (T : TypeId) (n : Nat) (f : Nat → Int) : Prop := w.heap[b]? = some (.cells (arrv n f) T (0, 0))
theorem Blk.cell {w : World} {b T n : Nat} {f : Nat → Int} (h : Blk w b T n f) {i : Nat} (hi : i < n) : w.cell? ⟨b, i, none⟩ = some (.int .i64 (f i)) := by
  rw [cell_of_row w b i _ _ _ h, arrv_get hi]
theorem Blk.free {w : World} {b T n : Nat} {f : Nat → Int} (h : Blk w b T n f) (i : Nat) : w.frozen? ⟨b, i, none⟩ = false := frozen_of_row w b i _ _ h
theorem Blk.lt {w : World} {b T n : Nat} {f : Nat → Int} (h : Blk w b T n f) : b < w.heap.size := by
  rcases Nat.lt_or_ge b w.heap.size with h' | h'
  · exact h'
  · unfold Blk at h; rw [Array.getElem?_eq_none h'] at h; cases h
theorem Blk.set {w : World} {b T n : Nat} {f : Nat → Int} (h : Blk w b T n f) (j : Nat) (v : Int) : Blk (w.setCell ⟨b, j, none⟩ (.int .i64 v)) b T n (upd f j v) := by
  have := heap_setCell_same w b j _ _ (.int .i64 v) h
  unfold Blk
  rw [this, arrv_set]
theorem Blk.other {w : World} {b T n : Nat} {f : Nat → Int} (h : Blk w b T n f) {a : Addr} (ha : b ≠ a.block) (v : Value) : Blk (w.setCell a v) b T n f :=
  (heap_setCell_other w a b v ha).trans h
theorem Blk.alloc {w : World} {b T n : Nat} {f : Nat → Int} (h : Blk w b T n f) (o : Obj) : Blk (w.alloc o) b T n f := ((Below.refl w.heap.size w).alloc (Nat.le_refl _) o).block b h.lt |>.trans h
theorem Blk.drew {w : World} {b T n : Nat} {f : Nat → Int} (h : Blk w b T n f) : Blk w.drew b T n f := h
theorem Blk.below {w w' : World} {b T n : Nat} {f : Nat → Int} (h : Blk w b T n f) (hb : Below w.heap.size w w') : Blk w' b T n f := (hb.block b h.lt).trans h
theorem Blk.upd {w w' : World} {b T n : Nat} {f : Nat → Int} (h : Blk w b T n f) {c : Addr} {v : Bool} (u : Upd c v w w') (hn : b ≠ c.block) : Blk w' b T n f := (u.block h.lt hn).trans h
theorem Blk.new (w : World) (T n : Nat) (f : Nat → Int) : Blk (w.alloc (.cells (arrv n f) T)) w.heap.size T n f := heap_alloc_new w _
theorem Blk.new1 (w : World) (o : Obj) (T n : Nat) (f : Nat → Int) : Blk ((w.alloc o).alloc (.cells (arrv n f) T)) (w.heap.size + 1) T n f := by
  have h := Blk.new (w.alloc o) T n f
  rwa [show (w.alloc o).heap.size = w.heap.size + 1 from by simp] at h
theorem blk_new2 (w : World) (o o2 : Obj) (T n : Nat) (f : Nat → Int) : Blk (((w.alloc o).alloc o2).alloc (.cells (arrv n f) T)) (w.heap.size + 1 + 1) T n f := by
  have h := Blk.new1 (w.alloc o) o2 T n f
  rwa [show (w.alloc o).heap.size = w.heap.size + 1 from by simp] at h
theorem blk_new3 (w : World) (o o2 o3 : Obj) (T n : Nat) (f : Nat → Int) : Blk ((((w.alloc o).alloc o2).alloc o3).alloc (.cells (arrv n f) T)) (w.heap.size + 1 + 1 + 1) T n f := by
  have h := blk_new2 (w.alloc o) o2 o3 T n f
  rwa [show (w.alloc o).heap.size = w.heap.size + 1 from by simp] at h
theorem Blk.congr {w : World} {b T n : Nat} {f g : Nat → Int} (h : Blk w b T n f) (e : ∀ i, i < n → f i = g i) : Blk w b T n g := by unfold Blk at *; rw [h, arrv_congr e]
theorem Blk.setRow {w : World} {b T n : Nat} {f : Nat → Int} (h : Blk w b T n f) (g : Nat → Int) : Blk (w.setRow b (arrv n g)) b T n g := setRow_heap w b _ _ T _ h
theorem Blk.setRow_other {w : World} {b T n k : Nat} {f : Nat → Int} (h : Blk w b T n f) (cs : Array Value) (hk : b ≠ k) : Blk (w.setRow k cs) b T n f := (Go.setRow_other w k b cs hk).trans h
/-- A flag's cell is in no block of numbers. -/
theorem Blk.flag {w : World} {b T n : Nat} {f : Nat → Int} (h : Blk w b T n f) {c : Addr} {v : Bool} (hc : w.cell? c = some (.bool v)) : b ≠ c.block := by
  intro e
  unfold World.cell? at hc
  rw [← e, h] at hc
  simp only at hc
  split at hc
  · cases hc
  · by_cases hi : c.off < n
    · rw [arrv_get hi] at hc; cases hc
    · rw [Array.getElem?_eq_none (by rw [arrv_size]; omega)] at hc; cases hc
theorem below_row {B g : Nat} {w0 w : World} (hb : Below B w0 w) (hBg : B ≤ g) (cs : Array Value) : Below B w0 (w.setRow g cs) :=
  hb.trans ⟨rfl, rfl, rfl, by simp, fun k hk => Go.setRow_other w g k cs (by omega)⟩
theorem oneCell_arrv (n : Nat) (f : Nat → Int) : (arrv n f).all (·.oneCell') = true := by
  rw [Array.all_eq_true]
  intro i hi
  simp [arrv, Value.oneCell']
end Go.Proofs.Ytcbklolfibdffaa
