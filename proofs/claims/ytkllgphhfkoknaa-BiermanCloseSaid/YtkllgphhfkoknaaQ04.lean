/- Contracts of the program's functions and plain laws, part 4: they hold for all arguments. -/
import Derived.Test.YtkllgphhfkoknaaQ03
import Derived.Test.YtkllgphhfkoknaaProg
import Derived.WalkKit
import Derived.WalkSpells
import Derived.WalkLawsBesides
import Derived.KernelRfl
import Derived.Laws.Tables
import Derived.Deep.WholeRow
import Derived.Deep.Cut
import Derived.Deep.CutRange
import Derived.Laws.CopyOwn
/- thornton.Step's numbers: one elimination, and all of them. No program. -/
namespace Go.Proofs.Ytkllgphhfkoknaa
def upd (f : Nat → Int) (j : Nat) (v : Int) : Nat → Int := fun i => if i = j then v else f i
/-- Is one of the first n so? -/
def orB (p : Nat → Bool) : Nat → Bool | 0 => false | n + 1 => orB p n || p n
def varV (a : Int) : Int := clampV a 1 72057594037927936
def varH (a : Int) : Bool := clampH a 1 72057594037927936
def subV (a b : Int) : Int := satV (satV a - satV b)
def subH (a b : Int) : Bool := satH a || satH b || satH (satV a - satV b)
/-- Row i of a matrix of n columns. -/
def rowF (n : Nat) (F : Nat → Int) (i : Nat) : Nat → Int := fun m => F (i * n + m)
/-- Where U's number of row i and column j stands. -/
def pl (i j : Nat) : Nat := j * (j - 1) / 2 + i
/-- One elimination, row j. -/
def stY (W e : Nat → Int) (j : Nat) : Nat → Int := fun k => mulV (W (j * 48 + k)) (e k) 30
def stD (W e : Nat → Int) (j : Nat) : Int := varV (dotV 30 (rowF 48 W j) (stY W e j) 48)
def stU (W e : Nat → Int) (j i : Nat) : Int := divV (dotV 30 (rowF 48 W i) (stY W e j) 48) (stD W e j) 30
def elV (W : Nat → Int) (u : Int) (j i k : Nat) : Int := subV (W (i * 48 + k)) (mulV u (W (j * 48 + k)) 30)
def elB (W : Nat → Int) (u : Int) (j i k : Nat) : Bool := mulH u (W (j * 48 + k)) 30 || subH (W (i * 48 + k)) (mulV u (W (j * 48 + k)) 30)
/-- m rows are done, and of row m the first kk numbers. -/
def elW (W e : Nat → Int) (j m kk : Nat) : Nat → Int := fun x => if x / 48 < m ∨ (x / 48 = m ∧ x % 48 < kk) then elV W (stU W e j (x / 48)) j (x / 48) (x % 48) else W x
def yB (W e : Nat → Int) (j k : Nat) : Bool := mulH (W (j * 48 + k)) (e k) 30
def dB (W e : Nat → Int) (j : Nat) : Bool := dotH 30 (rowF 48 W j) (stY W e j) 48 || varH (dotV 30 (rowF 48 W j) (stY W e j) 48)
def uB (W e : Nat → Int) (j i : Nat) : Bool := dotH 30 (rowF 48 W i) (stY W e j) 48 || divH (dotV 30 (rowF 48 W i) (stY W e j) 48) (stD W e j) 30
def rowB (W e : Nat → Int) (j i : Nat) : Bool := uB W e j i || orB (elB W (stU W e j i) j i) 48
def stageH (W e : Nat → Int) (j : Nat) : Bool := orB (yB W e j) 48 || dB W e j || orB (rowB W e j) j
/-- n eliminations are done: of rows 23, 22, .. -/
def WN (W e : Nat → Int) : Nat → Nat → Int | 0 => W | n + 1 => elW (WN W e n) e (23 - n) (23 - n) 0
def HN (W e : Nat → Int) : Nat → Bool | 0 => false | n + 1 => HN W e n || stageH (WN W e n) e (23 - n)
def addV (a b : Int) : Int := satV (satV a + satV b)
def addH (a b : Int) : Bool := satH a || satH b || satH (satV a + satV b)
def two (x y : Int) : Nat → Int := fun i => if i = 0 then x else y
theorem add2 (x y : Int) (h : Bool) : satV (sumS (two x y) 2) = addV x y ∧ (h || sumB (two x y) 2 || satH (sumS (two x y) 2)) = (h || addH x y) := by
  have e : sumS (two x y) 2 = satV x + satV y := by simp [sumS, two]
  rw [e]
  refine ⟨rfl, ?_⟩
  simp [sumB, two, addH, Bool.or_assoc]
end Go.Proofs.Ytkllgphhfkoknaa
/- The great noughts by name, where the program's own form does not name them. -/
namespace Go.Proofs.Ytkllgphhfkoknaa
open Go
def Try.zeroCells25 : Array Value := Array.replicate 300 (.int .i64 0)
@[simp] theorem Try.zeroValue25 (w : World) : (zeroValue 25).run Try.prog w = .ok (.agg Try.zeroCells25) w := by kernel_rfl
@[simp] theorem Try.zeroCells25_size : Try.zeroCells25.size = 300 := by kernel_rfl
@[simp] theorem Try.zeroCells25_ne : Try.zeroCells25 ≠ #[] := fun h => by have := Try.zeroCells25_size; rw [h] at this; cases this
end Go.Proofs.Ytkllgphhfkoknaa
/- Arrays of int64 as functions: the cells of a block; small laws. -/
namespace Go.Proofs.Ytkllgphhfkoknaa
open Go.RowKit
/-- n numbers, as cells. -/
def arrv (n : Nat) (f : Nat → Int) : Array Value := Array.ofFn (n := n) fun i => .int .i64 (f i)
theorem arrv_size (n : Nat) (f : Nat → Int) : (arrv n f).size = n := by simp [arrv]
theorem arrv_get {n : Nat} {f : Nat → Int} {i : Nat} (h : i < n) : (arrv n f)[i]? = some (.int .i64 (f i)) := by simp [arrv, h]
theorem arrv_set (n : Nat) (f : Nat → Int) (j : Nat) (v : Int) : (arrv n f).setIfInBounds j (.int .i64 v) = arrv n (upd f j v) := by
  apply Array.ext_getElem?
  intro i
  rw [Array.getElem?_setIfInBounds]
  by_cases hi : i < n
  · rw [arrv_get hi]
    by_cases hj : j = i
    · subst hj; rw [if_pos rfl, arrv_get hi, arrv_size, if_pos hi]; simp [upd]
    · rw [if_neg hj, arrv_get hi]; simp [upd, show ¬ i = j by omega]
  · rw [Array.getElem?_eq_none (by rw [arrv_size]; omega)]
    rw [Array.getElem?_eq_none (xs := arrv n (upd f j v)) (by rw [arrv_size]; omega)]
    split
    · rw [arrv_size, if_neg (by omega)]
    · rfl
theorem arrv_congr {n : Nat} {f g : Nat → Int} (h : ∀ i, i < n → f i = g i) : arrv n f = arrv n g := by
  apply Array.ext_getElem?
  intro i
  by_cases hi : i < n
  · rw [arrv_get hi, arrv_get hi, h i hi]
  · rw [Array.getElem?_eq_none (by rw [arrv_size]; omega), Array.getElem?_eq_none (by rw [arrv_size]; omega)]
/-- Block b holds the numbers f. -/
def Blk (w : World) (b : Nat) (T : TypeId) (n : Nat) (f : Nat → Int) : Prop := w.heap[b]? = some (.cells (arrv n f) T (0, 0))
theorem Blk.cell {w : World} {b T n : Nat} {f : Nat → Int} (h : Blk w b T n f) {i : Nat} (hi : i < n) : w.cell? ⟨b, i, none⟩ = some (.int .i64 (f i)) := by
  rw [cell_of_row w b i _ _ _ h, arrv_get hi]
theorem Blk.free {w : World} {b T n : Nat} {f : Nat → Int} (h : Blk w b T n f) (i : Nat) : w.frozen? ⟨b, i, none⟩ = false := frozen_of_row w b i _ _ h
theorem Blk.lt {w : World} {b T n : Nat} {f : Nat → Int} (h : Blk w b T n f) : b < w.heap.size := by
  rcases Nat.lt_or_ge b w.heap.size with h' | h'
  · exact h'
  · unfold Blk at h; rw [Array.getElem?_eq_none h'] at h; cases h
theorem Blk.set {w : World} {b T n : Nat} {f : Nat → Int} (h : Blk w b T n f) (j : Nat) (v : Int) : Blk (w.setCell ⟨b, j, none⟩ (.int .i64 v)) b T n (upd f j v) := by
  have := heap_setCell_same w b j _ _ (.int .i64 v) h
  unfold Blk
  rw [this, arrv_set]
theorem Blk.other {w : World} {b T n : Nat} {f : Nat → Int} (h : Blk w b T n f) {a : Addr} (ha : b ≠ a.block) (v : Value) : Blk (w.setCell a v) b T n f :=
  (heap_setCell_other w a b v ha).trans h
theorem Blk.alloc {w : World} {b T n : Nat} {f : Nat → Int} (h : Blk w b T n f) (o : Obj) : Blk (w.alloc o) b T n f := ((Below.refl w.heap.size w).alloc (Nat.le_refl _) o).block b h.lt |>.trans h
theorem Blk.drew {w : World} {b T n : Nat} {f : Nat → Int} (h : Blk w b T n f) : Blk w.drew b T n f := h
theorem Blk.below {w w' : World} {b T n : Nat} {f : Nat → Int} (h : Blk w b T n f) (hb : Below w.heap.size w w') : Blk w' b T n f := (hb.block b h.lt).trans h
theorem Blk.upd {w w' : World} {b T n : Nat} {f : Nat → Int} (h : Blk w b T n f) {c : Addr} {v : Bool} (u : Upd c v w w') (hn : b ≠ c.block) : Blk w' b T n f := (u.block h.lt hn).trans h
theorem Blk.new (w : World) (T n : Nat) (f : Nat → Int) : Blk (w.alloc (.cells (arrv n f) T)) w.heap.size T n f := heap_alloc_new w _
theorem Blk.new1 (w : World) (o : Obj) (T n : Nat) (f : Nat → Int) : Blk ((w.alloc o).alloc (.cells (arrv n f) T)) (w.heap.size + 1) T n f := by
  have h := Blk.new (w.alloc o) T n f
  rwa [show (w.alloc o).heap.size = w.heap.size + 1 from by simp] at h
theorem blk_new2 (w : World) (o o2 : Obj) (T n : Nat) (f : Nat → Int) : Blk (((w.alloc o).alloc o2).alloc (.cells (arrv n f) T)) (w.heap.size + 1 + 1) T n f := by
  have h := Blk.new1 (w.alloc o) o2 T n f
  rwa [show (w.alloc o).heap.size = w.heap.size + 1 from by simp] at h
theorem blk_new3 (w : World) (o o2 o3 : Obj) (T n : Nat) (f : Nat → Int) : Blk ((((w.alloc o).alloc o2).alloc o3).alloc (.cells (arrv n f) T)) (w.heap.size + 1 + 1 + 1) T n f := by
  have h := blk_new2 (w.alloc o) o2 o3 T n f
  rwa [show (w.alloc o).heap.size = w.heap.size + 1 from by simp] at h
theorem Blk.congr {w : World} {b T n : Nat} {f g : Nat → Int} (h : Blk w b T n f) (e : ∀ i, i < n → f i = g i) : Blk w b T n g := by unfold Blk at *; rw [h, arrv_congr e]
theorem Blk.setRow {w : World} {b T n : Nat} {f : Nat → Int} (h : Blk w b T n f) (g : Nat → Int) : Blk (w.setRow b (arrv n g)) b T n g := setRow_heap w b _ _ T _ h
theorem Blk.setRow_other {w : World} {b T n k : Nat} {f : Nat → Int} (h : Blk w b T n f) (cs : Array Value) (hk : b ≠ k) : Blk (w.setRow k cs) b T n f := (Go.setRow_other w k b cs hk).trans h
/-- A flag's cell is in no block of numbers. -/
theorem Blk.flag {w : World} {b T n : Nat} {f : Nat → Int} (h : Blk w b T n f) {c : Addr} {v : Bool} (hc : w.cell? c = some (.bool v)) : b ≠ c.block := by
  intro e
  unfold World.cell? at hc
  rw [← e, h] at hc
  simp only at hc
  split at hc
  · cases hc
  · by_cases hi : c.off < n
    · rw [arrv_get hi] at hc; cases hc
    · rw [Array.getElem?_eq_none (by rw [arrv_size]; omega)] at hc; cases hc
theorem below_row {B g : Nat} {w0 w : World} (hb : Below B w0 w) (hBg : B ≤ g) (cs : Array Value) : Below B w0 (w.setRow g cs) :=
  hb.trans ⟨rfl, rfl, rfl, by simp, fun k hk => Go.setRow_other w g k cs (by omega)⟩
theorem oneCell_arrv (n : Nat) (f : Nat → Int) : (arrv n f).all (·.oneCell') = true := by
  rw [Array.all_eq_true]
  intro i hi
  simp [arrv, Value.oneCell']
end Go.Proofs.Ytkllgphhfkoknaa
/- What a law's walk carries: its own blocks (numbers, flags), and that all that was there is left. -/
namespace Go.Proofs.Ytkllgphhfkoknaa
open Go.RowKit
/-- Block b holds one flag. -/
def Flg (w : World) (b : Nat) (h : Bool) : Prop := w.heap[b]? = some (.cells #[.bool h] 30 (0, 0))
theorem Flg.cell {w : World} {b : Nat} {h : Bool} (f : Flg w b h) : w.cell? ⟨b, 0, none⟩ = some (.bool h) := by
  rw [cell_of_row w b 0 _ _ _ f]; rfl
theorem Flg.free {w : World} {b : Nat} {h : Bool} (f : Flg w b h) : w.frozen? ⟨b, 0, none⟩ = false := frozen_of_row w b 0 _ _ f
theorem Flg.lt {w : World} {b : Nat} {h : Bool} (f : Flg w b h) : b < w.heap.size := by
  rcases Nat.lt_or_ge b w.heap.size with h' | h'
  · exact h'
  · unfold Flg at f; rw [Array.getElem?_eq_none h'] at f; cases f
theorem Flg.below {w w' : World} {b : Nat} {h : Bool} (f : Flg w b h) (hb : Below w.heap.size w w') : Flg w' b h := (hb.block b f.lt).trans f
theorem Flg.alloc {w : World} {b : Nat} {h : Bool} (f : Flg w b h) (o : Obj) : Flg (w.alloc o) b h := f.below ((Below.refl w.heap.size w).alloc (Nat.le_refl _) o)
theorem Flg.other {w : World} {b : Nat} {h : Bool} (f : Flg w b h) {a : Addr} (ha : b ≠ a.block) (v : Value) : Flg (w.setCell a v) b h := (heap_setCell_other w a b v ha).trans f
theorem Flg.row {w : World} {b k : Nat} {h : Bool} (f : Flg w b h) (cs : Array Value) (hk : b ≠ k) : Flg (w.setRow k cs) b h := (Go.setRow_other w k b cs hk).trans f
theorem Flg.new (w : World) (h : Bool) : Flg (w.alloc (.cells #[.bool h] 30)) w.heap.size h := heap_alloc_new w _
theorem Flg.upd {w w' : World} {b : Nat} {h : Bool} (f : Flg w b h) {c : Addr} {v : Bool} (u : Upd c v w w') (hn : b ≠ c.block) : Flg w' b h := (u.block f.lt hn).trans f
/-- Its own flag, raised or not. -/
theorem Flg.hit {w w' : World} {b : Nat} {h h' : Bool} (f : Flg w b h) (u : Upd ⟨b, 0, none⟩ h' w w') : Flg w' b h' := by
  have e : (w.setCell ⟨b, 0, none⟩ (.bool h')).heap[b]? = some (.cells #[.bool h'] 30 (0, 0)) := heap_setCell_same w b 0 _ _ (.bool h') f
  have hl : b < w.heap.size := f.lt
  exact (Below.block u b hl).trans e
theorem Flg.ne {w : World} {b b' : Nat} {h : Bool} {T n : Nat} {f' : Nat → Int} (f : Flg w b h) (k : Blk w b' T n f') : b' ≠ b := k.flag f.cell
/-- Where the flag's cell is new, all that was there is left. -/
theorem own_upd {c : Addr} {h : Bool} {w w1 w2 : World} (b : Below w.heap.size w w1) (hc : w.heap.size ≤ c.block) (u : Upd c h w1 w2) : Below w.heap.size w w2 :=
  b.trans (((Below.refl w.heap.size w1).setCell hc _).trans (Below.mono u b.size))
open Go in
/-- An operation of a plain region, by its value. -/
theorem wpList_val {P : Program} {ops : Array Oper} {Q : Exit → Act → World → Prop} {a : Act} {w : World} {rest : List Oper} {o : Oper} {v : Value}
    (hw : Region.wanted o (yielded ops a.tmps) = true) (hy : (execOp a.eval o).run P w = .ok (.value v) w) (h : wpList P ops Q rest (a.put o.dst v) w) : wpList P ops Q (o :: rest) a w :=
  wpList_step fun K hK => by
    rw [if_pos hw]
    unfold Oper.wp
    rw [hy]
    exact hK _ _ h
open Go in
/-- .. that is not wanted. -/
theorem wpList_skip {P : Program} {ops : Array Oper} {Q : Exit → Act → World → Prop} {a : Act} {w : World} {rest : List Oper} {o : Oper}
    (hw : Region.wanted o (yielded ops a.tmps) = false) (h : wpList P ops Q rest (a.put o.dst undef) w) : wpList P ops Q (o :: rest) a w :=
  wpList_step fun K hK => by
    rw [if_neg (by rw [hw]; decide)]
    exact hK _ _ h
open Go in
/-- .. by its value and its world. -/
theorem wpList_act {P : Program} {ops : Array Oper} {Q : Exit → Act → World → Prop} {a : Act} {w w' : World} {rest : List Oper} {o : Oper} {v : Value}
    (hw : Region.wanted o (yielded ops a.tmps) = true) (hy : (execOp a.eval o).run P w = .ok (.value v) w') (h : wpList P ops Q rest (a.put o.dst v) w') : wpList P ops Q (o :: rest) a w :=
  wpList_step fun K hK => by
    rw [if_pos hw]
    unfold Oper.wp
    rw [hy]
    exact hK _ _ h
open Go in
/-- .. by its world. -/
theorem wpList_done {P : Program} {ops : Array Oper} {Q : Exit → Act → World → Prop} {a : Act} {w w' : World} {rest : List Oper} {o : Oper}
    (hw : Region.wanted o (yielded ops a.tmps) = true) (hy : (execOp a.eval o).run P w = .ok .skip w') (h : wpList P ops Q rest (a.put o.dst undef) w') : wpList P ops Q (o :: rest) a w :=
  wpList_step fun K hK => by
    rw [if_pos hw]
    unfold Oper.wp
    rw [hy]
    exact hK _ _ h
open Go in
theorem run_store_row {P : Program} {ev : Operand → Value} {o : Oper} {w : World} (ty : TypeId) (x y : Operand) (ho : o.op = .store ty x y)
    (g : Nat) (hx : ev x = .pointer (some ⟨g, 0, none⟩)) {T n : Nat} {F f : Nat → Int} (hy : ev y = .agg (arrv n F)) (hg : Blk w g T n f) (hi : (P.info? ty).map (·.size) = some n) :
    (execOp ev o).run P w = .ok .skip (w.setRow g (arrv n F)) := by
  unfold execOp
  simp only [ho, hx, hy, Instr.storeAt, Instr.sureAddr, Sem.run_bind, Sem.run_pure, Result.andThen_ok, run_storeVar_row (P := P) w g T ty (arrv n f) (arrv n F) hg (hi.trans (by rw [arrv_size])) (by rw [arrv_size, arrv_size]) (oneCell_arrv n F)]
end Go.Proofs.Ytkllgphhfkoknaa
/- Contract of tri.Condition. -/
namespace Go.Proofs.Ytkllgphhfkoknaa
open Go.RowKit
set_option maxRecDepth 100000
theorem variance_any (c : Addr) (h : Bool) (a : Int) (w : World) (hc : w.cell? c = some (.bool h)) (hf : w.frozen? c = false) :
    Calls Try.prog 27 #[.pointer (some c), .int .i64 a] w fun e w' => e = .returned (.int .i64 (clampV a 1 72057594037927936)) ∧ w.setCell c (.bool (h || clampH a 1 72057594037927936)) = w' := by
  go_enter Try.func27, Try.ntmps27
  go_wp2_with (go_at_call 16; refine (clamp_any c h a _ _ _ hc hf).mono ?_; rintro e w' ⟨rfl, rfl⟩)
  go_ret
  exact ⟨rfl, rfl⟩
/-- A covariance as 300 numbers: U's first, then D's. -/
def condF (f : Nat → Int) : Nat → Int := fun i => if i < 276 then satV (f i) else varV (f i)
def condH (f : Nat → Int) : Bool := orB (fun i => varH (f (276 + i))) 24 || orB (fun i => satH (f i)) 276
def condD (f : Nat → Int) (k : Nat) : Nat → Int := fun i => if 276 ≤ i ∧ i < 276 + k then varV (f i) else f i
def condU (f : Nat → Int) (k : Nat) : Nat → Int := fun i => if i < k then satV (f i) else if 276 ≤ i then varV (f i) else f i
structure CondR (c : Addr) (h : Bool) (g : Nat → Int) (w wr : World) : Prop where
  upd : Upd c h w wr
  blk : Blk wr w.heap.size 25 300 g
  res : Blk wr (w.heap.size + 1) 25 300 (fun _ => 0)
theorem zcov : Try.zeroCells25 = arrv 300 (fun _ => 0) := by kernel_rfl
theorem icov : (Try.prog.info? 25).map (·.size) = some 300 := by kernel_rfl
theorem cond_any (c : Addr) (h : Bool) (f : Nat → Int) (w : World) (hc : w.cell? c = some (.bool h)) (hf : w.frozen? c = false) :
    Calls Try.prog 28 #[.pointer (some c), .agg (arrv 300 f)] w fun e w' => e = .returned (.agg (arrv 300 (condF f))) ∧ Upd c (h || condH f) w w' := by
  have hcb := World.block_lt_of_cell? w c hc
  have HC := Lib.hid hc
  have HF := Lib.hid hf
  clear hc hf
  go_enter Try.func28, Try.ntmps28
  go_wp2_with fail
  go_loopw [7] (fun i wr => ∃ k : Nat, k ≤ 24 ∧ i = .int .i64 k ∧ Hid (CondR c (h || orB (fun i => varH (f (276 + i))) k) (condD f k) w wr)) (fun i _ => 24 - (intOf i).toNat)
  case atStart =>
    refine ⟨0, by omega, rfl, ⟨?_, ?_, ?_⟩⟩
    · rw [show (h || orB (fun i => varH (f (276 + i))) 0) = h from by simp [orB]]
      exact Upd.then (Upd.refl HC.out) (by (repeat (first | with_reducible exact Below.refl _ _ | with_reducible apply Below.drew | (with_reducible refine below_drewN ?_ _) | (with_reducible refine Below.alloc ?_ (by (try simp) <;> omega) _) | (with_reducible refine Below.setCell ?_ (by (try simp) <;> omega) _))))
    · exact (Blk.alloc (Blk.new w _ 300 f) _).congr fun i hi => by simp [condD]; omega
    · rw [zcov]; exact Blk.new1 w _ _ 300 _
  case round =>
    obtain ⟨k, hk, rfl, R⟩ := hrel
    by_cases hlt : k < 24
    · have rc := R.out.upd.cellc HC.out
      have rf := (R.out.upd.frozen hcb).trans HF.out
      have b0 := R.out.blk.cell (i := 276 + k) (by omega)
      have b1 := R.out.blk.free (276 + k)
      have n0 := ne_of_cells rc b0
      have hv : condD f k (276 + k) = f (276 + k) := by simp [condD]
      rw [hv] at b0
      clear hv
      go_wp2_with (go_at_call 27; refine (variance_any c _ _ _ rc rf).mono ?_; rintro e w' ⟨rfl, rfl⟩)
      go_roundw
      case rel =>
        refine ⟨k + 1, by omega, by go_num, ⟨?_, ?_, ?_⟩⟩
        · rw [show (h || orB (fun i => varH (f (276 + i))) (k + 1)) = (h || orB (fun i => varH (f (276 + i))) k || clampH (f (276 + k)) 1 72057594037927936) from by simp [orB, varH, Bool.or_assoc]]
          exact (R.out.upd.trans (Upd.set c _ _)).setCell (Nat.le_refl _) _
        · refine ((R.out.blk.other (R.out.blk.flag rc) _).set _ _).congr fun i hi => ?_
          simp only [Go.Proofs.Ytkllgphhfkoknaa.upd, condD, varV]
          by_cases h1 : i = 276 + k
          · subst h1; simp
          · rw [if_neg h1]; split <;> split <;> first | rfl | omega
        · exact (R.out.res.other (R.out.res.flag rc) _).other (by simp) _
      case measure => simp [intOf]; omega
    · have hk24 : k = 24 := by omega
      subst hk24
      have HR := R
      clear R hlt hk
      rw [show ((24 : Nat) : Int) = 24 from rfl]
      go_wp2_with fail
      go_loopw [20] (fun i wr => ∃ k : Nat, k ≤ 276 ∧ i = .int .i64 k ∧ Hid (CondR c (h || orB (fun i => varH (f (276 + i))) 24 || orB (fun i => satH (f i)) k) (condU f k) w wr)) (fun i _ => 276 - (intOf i).toNat)
      case atStart =>
        refine ⟨0, by omega, rfl, ⟨?_, HR.out.blk.congr fun i hi => by simp [condD, condU]; split <;> split <;> first | rfl | omega, HR.out.res⟩⟩
        rw [show (h || orB (fun i => varH (f (276 + i))) 24 || orB (fun i => satH (f i)) 0) = (h || orB (fun i => varH (f (276 + i))) 24) from by simp [orB]]
        exact HR.out.upd
      case round =>
        obtain ⟨k, hk, rfl, R⟩ := hrel
        by_cases hlt : k < 276
        · have rc := R.out.upd.cellc HC.out
          have rf := (R.out.upd.frozen hcb).trans HF.out
          have b0 := R.out.blk.cell (i := k) (by omega)
          have b1 := R.out.blk.free k
          have n0 := ne_of_cells rc b0
          have hv : condU f k k = f k := by simp [condU]; omega
          rw [hv] at b0
          clear hv
          go_wp2_with (go_at_call 16; refine (clamp_any c _ _ _ _ _ rc rf).mono ?_; rintro e w' ⟨rfl, rfl⟩)
          go_roundw
          case rel =>
            refine ⟨k + 1, by omega, by go_num, ⟨?_, ?_, ?_⟩⟩
            · rw [show (h || orB (fun i => varH (f (276 + i))) 24 || orB (fun i => satH (f i)) (k + 1)) = (h || orB (fun i => varH (f (276 + i))) 24 || orB (fun i => satH (f i)) k || clampH (f k) (-1152921504606846976) 1152921504606846976) from by simp [orB, satH, Bool.or_assoc]]
              exact (R.out.upd.trans (Upd.set c _ _)).setCell (Nat.le_refl _) _
            · refine ((R.out.blk.other (R.out.blk.flag rc) _).set _ _).congr fun i hi => ?_
              simp only [Go.Proofs.Ytkllgphhfkoknaa.upd, condU, satV]
              by_cases h1 : i = k
              · subst h1; simp
              · rw [if_neg h1]; repeat' split
                all_goals first | rfl | omega
            · exact (R.out.res.other (R.out.res.flag rc) _).other (by simp) _
          case measure => simp [intOf]; omega
        · have hk276 : k = 276 := by omega
          subst hk276
          have B0 := R.out.blk
          have B1 := R.out.res
          have U := Lib.hid R.out.upd
          have hl := B1.lt
          clear R hlt hk HR
          go_wp2_with (first | (refine wpList_load_row rfl 25 _ rfl w.heap.size rfl 25 _ (0, 0) _ B0 Try.underlying25 rfl (icov.trans (by rw [arrv_size])) ?_) | (refine wpList_store_row rfl 25 _ _ rfl (w.heap.size + 1) _ rfl rfl 25 _ B1 (icov.trans (by rw [arrv_size])) (by rw [arrv_size, arrv_size]) (oneCell_arrv _ _) ?_))
          refine bodyPost_ret (results_cell_row Try.results28 _ _ (w.heap.size + 1) 25 (arrv 300 (condU f 276)) (0, 0) _ rfl (setRow_heap _ _ _ _ _ _ B1) Try.underlying25 rfl (icov.trans (by rw [arrv_size]))) rfl ⟨?_, ?_⟩
          · rw [arrv_congr (g := condF f) fun i hi => ?_]
            simp only [condU, condF]
            by_cases h1 : i < 276
            · simp [h1]
            · rw [if_neg h1, if_neg h1, if_pos (by omega)]
          · rw [show (h || condH f) = (h || orB (fun i => varH (f (276 + i))) 24 || orB (fun i => satH (f i)) 276) from by simp [condH, Bool.or_assoc]]
            exact U.out.then' (below_row (Below.refl _ _) (by omega) _)
end Go.Proofs.Ytkllgphhfkoknaa
/- Contracts of package tri (2): Good, place, U, Set. -/
namespace Go.Proofs.Ytkllgphhfkoknaa
open Go.RowKit
set_option maxRecDepth 100000
theorem pl_lt {i j : Nat} (h : i < j) (hj : j < 24) : pl i j < 276 := by
  unfold pl
  have : j * (j - 1) ≤ 23 * 22 := Nat.mul_le_mul (by omega) (by omega)
  omega
theorem pl_cast (i j : Nat) : ((pl i j : Nat) : Int) = (j : Int) * ((j - 1 : Nat) : Int) / 2 + (i : Int) := by
  unfold pl
  rw [← Int.natCast_mul]
  omega
theorem place_any (i j : Nat) (w : World) (_hi : i < 24) (hj : j < 24) :
    Calls Try.prog 29 #[.int .i64 i, .int .i64 j] w fun e w' => e = .returned (.tuple #[.int .i64 (pl i j : Nat), .bool (decide (i < j))]) ∧ w = w' := by
  have hmul : (j : Int) * ((j : Int) - 1) = ((j * (j - 1) : Nat) : Int) := by
    cases j with
    | zero => simp
    | succ n => rw [Int.natCast_mul, show ((n + 1 : Nat) : Int) - 1 = ((n + 1 - 1 : Nat) : Int) from by omega]
  have hb : j * (j - 1) ≤ 23 * 22 := Nat.mul_le_mul (by omega) (by omega)
  have hc := pl_cast i j
  have HC := Lib.hid hc
  clear hc
  by_cases h : i < j
  · have hd : decide (i < j) = true := by simpa using h
    rw [hd]
    clear hd
    go_enter Try.func29, Try.ntmps29
    go_wp2
    go_ret2
    refine ⟨?_, rfl⟩
    rw [HC.out]
    simp only [hj, decide_true, Int.ofNat_lt, and_self]
    first | rfl | (simp; omega) | simp
  · have hd : decide (i < j) = false := by simpa using h
    rw [hd]
    go_enter Try.func29, Try.ntmps29
    go_wp2
    go_ret2
    refine ⟨?_, rfl⟩
    rw [HC.out]
    first | rfl | (simp; done) | (simp; omega)
/-- U's number of row i and column j. -/
def uV (f : Nat → Int) (i j : Nat) : Int := if i = j then 1073741824 else if i < j then f (pl i j) else 0
theorem u_any (f : Nat → Int) (i j : Nat) (w : World) (hi : i < 24) (hj : j < 24) :
    Calls Try.prog 17 #[.agg (arrv 300 f), .int .i64 i, .int .i64 j] w fun e w' => e = .returned (.int .i64 (uV f i j)) ∧ Below w.heap.size w w' := by
  by_cases h : i = j
  · subst h
    rw [show uV f i i = 1073741824 from by simp [uV]]
    go_enter Try.func17, Try.ntmps17
    go_wp2
    go_ret
    exact ⟨rfl, by (repeat (first | with_reducible exact Below.refl _ _ | with_reducible apply Below.drew | (with_reducible refine below_drewN ?_ _) | (with_reducible refine Below.alloc ?_ (by (try simp) <;> omega) _) | (with_reducible refine Below.setCell ?_ (by (try simp) <;> omega) _)))⟩
  · have hne : ((i : Int) == (j : Int)) = false := by simp; omega
    by_cases h1 : i < j
    · have hp := pl_lt h1 hj
      have ev : uV f i j = f (pl i j) := by simp [uV, h, h1]
      obtain ⟨p, hpp⟩ : ∃ p, pl i j = p := ⟨_, rfl⟩
      have PC := Lib.hid (place_any i j)
      rw [hpp] at hp ev PC
      rw [ev, show decide (i < j) = true from by simpa using h1] at *
      have b0 := (Blk.new w 25 300 f).cell (i := p) (by omega)
      clear h hpp ev
      go_enter Try.func17, Try.ntmps17
      go_wp2_with (go_at_call 29; refine (PC.out _ hi hj).mono ?_; rintro e w' ⟨rfl, rfl⟩)
      go_ret
      exact ⟨rfl, by (repeat (first | with_reducible exact Below.refl _ _ | with_reducible apply Below.drew | (with_reducible refine below_drewN ?_ _) | (with_reducible refine Below.alloc ?_ (by (try simp) <;> omega) _) | (with_reducible refine Below.setCell ?_ (by (try simp) <;> omega) _)))⟩
    · have ev : uV f i j = 0 := by simp [uV, h, h1]
      have PC := Lib.hid (place_any i j)
      rw [ev]
      rw [show decide (i < j) = false from by simpa using h1] at PC
      clear h ev
      go_enter Try.func17, Try.ntmps17
      go_wp2_with (go_at_call 29; refine (PC.out _ hi hj).mono ?_; rintro e w' ⟨rfl, rfl⟩)
      go_ret
      exact ⟨rfl, by (repeat (first | with_reducible exact Below.refl _ _ | with_reducible apply Below.drew | (with_reducible refine below_drewN ?_ _) | (with_reducible refine Below.alloc ?_ (by (try simp) <;> omega) _) | (with_reducible refine Below.setCell ?_ (by (try simp) <;> omega) _)))⟩
theorem set_any (f : Nat → Int) (i j : Nat) (v : Int) (w : World) (h1 : i < j) (hj : j < 24) :
    Calls Try.prog 18 #[.agg (arrv 300 f), .int .i64 i, .int .i64 j, .int .i64 v] w fun e w' => e = .returned (.agg (arrv 300 (upd f (pl i j) v))) ∧ Below w.heap.size w w' := by
  have hp := pl_lt h1 hj
  have hi : i < 24 := by omega
  obtain ⟨p, hpp⟩ : ∃ p, pl i j = p := ⟨_, rfl⟩
  have pc : ∀ w, Calls Try.prog 29 #[.int .i64 i, .int .i64 j] w fun e w' => e = .returned (.tuple #[.int .i64 p, .bool true]) ∧ w = w' := fun w => by
    have := place_any i j w hi hj
    rwa [hpp, show decide (i < j) = true from by simpa using h1] at this
  rw [hpp] at hp ⊢
  have PC := Lib.hid pc
  clear pc hpp h1 hi hj
  go_enter Try.func18, Try.ntmps18
  go_wp2_with fail
  have A0 := (Blk.new w 25 300 f).alloc (.cells Try.zeroCells25 25)
  have A1 := Blk.new1 w (.cells (arrv 300 f) 25) 25 300 (fun _ => 0)
  rw [← zcov] at A1
  have hb : Below w.heap.size w ((w.alloc (.cells (arrv 300 f) 25)).alloc (.cells Try.zeroCells25 25)) := by (repeat (first | with_reducible exact Below.refl _ _ | with_reducible apply Below.drew | (with_reducible refine below_drewN ?_ _) | (with_reducible refine Below.alloc ?_ (by (try simp) <;> omega) _) | (with_reducible refine Below.setCell ?_ (by (try simp) <;> omega) _)))
  refine (PC.out _).mono ?_; rintro e w' ⟨rfl, rfl⟩
  generalize (w.alloc (.cells (arrv 300 f) 25)).alloc (.cells Try.zeroCells25 25) = W at *
  have b0 := A0.cell (i := p) (by omega)
  have b1 := A0.free p
  have B0 := A0.set p v
  have B1 := A1.other (a := ⟨w.heap.size, p, none⟩) (by simp) (.int .i64 v)
  go_wp2_with (first | (refine wpList_load_row rfl 25 _ rfl w.heap.size rfl 25 _ (0, 0) _ B0 Try.underlying25 rfl (icov.trans (by rw [arrv_size])) ?_) | (refine wpList_store_row rfl 25 _ _ rfl (w.heap.size + 1) _ rfl rfl 25 _ B1 (icov.trans (by rw [arrv_size])) (by rw [arrv_size, arrv_size]) (oneCell_arrv _ _) ?_))
  refine bodyPost_ret (results_cell_row Try.results18 _ _ (w.heap.size + 1) 25 (arrv 300 (upd f p v)) (0, 0) _ rfl (setRow_heap _ _ _ _ _ _ B1) Try.underlying25 rfl (icov.trans (by rw [arrv_size]))) rfl ⟨rfl, ?_⟩
  exact below_row (hb.setCell (Nat.le_refl _) _) (by omega) _
end Go.Proofs.Ytkllgphhfkoknaa
/- Contracts of package thornton (1): One, rows. -/
namespace Go.Proofs.Ytkllgphhfkoknaa
open Go.RowKit
set_option maxRecDepth 100000
/-- Column k of U; row i of a matrix. -/
def colF (f : Nat → Int) (k : Nat) : Nat → Int := fun m => if m ≤ k then uV f m k else 0
def rwV (f F : Nat → Int) (i k : Nat) : Int := dotV 30 (rowF 24 F i) (colF f k) 24
def rwB (f F : Nat → Int) (i k : Nat) : Bool := dotH 30 (rowF 24 F i) (colF f k) 24
def rowsW (f F : Nat → Int) : Nat → Int := fun j => if j % 48 < 24 then rwV f F (j / 48) (j % 48) else if j % 48 = 24 + j / 48 then 1073741824 else 0
def rwH (f F : Nat → Int) (k : Nat) : Bool := orB (fun k => orB (fun i => rwB f F i k) 24) k
def rowsH (f F : Nat → Int) : Bool := rwH f F 24
end Go.Proofs.Ytkllgphhfkoknaa
/- Contract of thornton.rows. -/
namespace Go.Proofs.Ytkllgphhfkoknaa
open Go.RowKit
set_option maxRecDepth 100000
end Go.Proofs.Ytkllgphhfkoknaa
/- thornton.Step (1): the numbers, and the first loop. -/
namespace Go.Proofs.Ytkllgphhfkoknaa
open Go.RowKit
set_option maxRecDepth 100000
def qV (a : Int) : Int := clampV a 0 72057594037927936
def qH (a : Int) : Bool := clampH a 0 72057594037927936
/-- Step's first loop: E, and the matrix clamped. -/
def eS (p q : Nat → Int) (i : Nat) : Nat → Int := fun x => if x < i then p (276 + x) else if 24 ≤ x ∧ x < 24 + i then qV (q (x - 24)) else 0
def fS (F : Nat → Int) (i k : Nat) : Nat → Int := fun x => if x / 24 < i ∨ (x / 24 = i ∧ x % 24 < k) then satV (F x) else F x
def row1H (F : Nat → Int) (i k : Nat) : Bool := orB (fun k => satH (F (i * 24 + k))) k
def loop1H (q F : Nat → Int) (i : Nat) : Bool := orB (fun i => qH (q i) || row1H F i 24) i
/-- Step's answer. -/
def stepE (f q : Nat → Int) : Nat → Int := eS (condF f) q 24
def stepW (f F : Nat → Int) : Nat → Int := rowsW (condF f) (fS F 24 0)
def stepH (f F q : Nat → Int) : Bool := condH f || loop1H q F 24 || rowsH (condF f) (fS F 24 0) || HN (stepW f F) (stepE f q) 24
end Go.Proofs.Ytkllgphhfkoknaa
/- A whole row of numbers loaded or stored, inside a region that draws its order. -/
namespace Go.Proofs.Ytkllgphhfkoknaa
open Go.RowKit
set_option maxRecDepth 100000
open Go in
theorem run_load_row {P : Program} {o : Oper} {ev : Operand → Value} {w : World} (ty : TypeId) (x : Operand) (ho : o.op = .load ty x)
    (g : Nat) (hx : ev x = .pointer (some ⟨g, 0, none⟩)) (t : TypeId) (cs : Array Value) (fr : Nat × Nat) (d : TypeDesc) (hg : w.heap[g]? = some (.cells cs t fr))
    (hu : P.underlying ty = some d) (hd : (match d with | .struct _ | .array _ _ => true | _ => false) = true) (hi : (P.info? ty).map (·.size) = some cs.size) :
    (execOp ev o).run P w = .ok (.value (.agg cs)) w := by
  unfold execOp
  simp [ho, hx, Instr.loadAt, Instr.sureAddr, Sem.run_bind, run_loadVar_row (P := P) w g t ty cs fr d hg hu hd hi]
open Go in
theorem run_storeCells_row {P : Program} {w : World} {g T n : Nat} {f : Nat → Int} (F : Nat → Int) (h : Blk w g T n f) :
    (storeCells ⟨g, 0, none⟩ (arrv n F).toList).run P w = .ok () (w.setRow g (arrv n F)) := by
  have e := run_storeCells_at (P := P) g 0 T (arrv n F).toList 0 (arrv n f) w h (by simp [arrv_size]) (fun v hv => (Array.all_eq_true'.1 (oneCell_arrv n F)) v (by simpa using hv))
  rw [e]
  congr 2
  simp only [Nat.zero_add, Nat.add_zero, List.take_zero, List.nil_append, Array.length_toList, arrv_size]
  rw [List.drop_of_length_le (by simp [arrv_size]), List.append_nil, Array.toArray_toList]
/-- A slice of int64: n numbers from a pointer, or none. -/
def Slc (w : World) (p : Option Addr) (n : Nat) (L : Nat → Int) : Prop := ∀ i, i < n → ∃ b o, p = some ⟨b, o, none⟩ ∧ w.cell? ⟨b, o + i, none⟩ = some (.int .i64 (L i))
theorem Slc.below {w w' : World} {p : Option Addr} {n : Nat} {L : Nat → Int} (h : Slc w p n L) (b : Below w.heap.size w w') : Slc w' p n L := fun i hi => by
  obtain ⟨k, o, rfl, hc⟩ := h i hi
  exact ⟨k, o, rfl, (b.cell (World.block_lt_of_cell? _ _ hc)).trans hc⟩
section
open Go
theorem foldl_set (l : List Value) : ∀ (k : Nat) (cs : Array Value), k + l.length ≤ cs.size → ∀ i,
    ((l.zipIdx k).foldl (fun (cs : Array Value) (x : Value × Nat) => cs.setIfInBounds (0 + x.2) x.1) cs)[i]? = if k ≤ i ∧ i < k + l.length then l[i - k]? else cs[i]? := by
  induction l with
  | nil => intro k cs _ i; simp; intro h; omega
  | cons v l ih =>
    intro k cs h i
    simp only [List.zipIdx_cons, List.foldl_cons, List.length_cons] at h ⊢
    rw [ih (k + 1) _ (by simp; omega) i]
    by_cases h1 : k + 1 ≤ i ∧ i < k + 1 + l.length
    · rw [if_pos h1, if_pos (by omega), show i - k = (i - (k + 1)) + 1 by omega, List.getElem?_cons_succ]
    · rw [if_neg h1]
      by_cases h2 : i = k
      · subst h2
        rw [if_pos (by omega), Nat.sub_self, Nat.zero_add]
        simp [show i < cs.size by omega]
      · rw [if_neg (by omega), Nat.zero_add, Array.getElem?_setIfInBounds, if_neg (by omega)]
theorem fill_one (pl : Nat → Option (Nat × Nat)) (cs V : Array Value) (n : Nat) (hn : V.size = n) (hp : pl 0 = some (0, n)) (hs : V.size ≤ cs.size) :
    Instr.fill pl cs [(0, .agg V)] = some (V.toList.zipIdx.foldl (fun (cs : Array Value) (x : Value × Nat) => cs.setIfInBounds (0 + x.2) x.1) cs) := by
  have hc : (Value.agg V).cells = V := rfl
  unfold Instr.fill
  simp only [hp, hc]
  rw [if_neg (by simp [hn]; omega)]
  unfold Instr.fill
  rw [← Array.foldl_toList, Array.toList_zipIdx]
theorem fill_first (pl : Nat → Option (Nat × Nat)) (n m : Nat) (f : Nat → Int) (hp : pl 0 = some (0, n)) :
    Instr.fill pl (arrv (n + m) (fun _ => 0)) [(0, .agg (arrv n f))] = some (arrv (n + m) (fun x => if x < n then f x else 0)) := by
  rw [fill_one pl _ (arrv n f) n (arrv_size ..) hp (by rw [arrv_size, arrv_size]; omega)]
  apply congrArg some
  apply Array.ext_getElem?
  intro i
  refine Eq.trans (foldl_set (arrv n f).toList 0 (arrv (n + m) (fun _ => 0)) (by simp [arrv_size]) i) ?_
  simp only [Array.length_toList, arrv_size, Nat.zero_le, true_and, Nat.zero_add, Nat.sub_zero, Array.getElem?_toList]
  by_cases h3 : i < n
  · rw [if_pos h3, arrv_get h3, arrv_get (by omega), if_pos h3]
  · rw [if_neg h3]
    by_cases h4 : i < n + m
    · rw [arrv_get h4, arrv_get h4, if_neg h3]
    · rw [Array.getElem?_eq_none (by rw [arrv_size]; omega), Array.getElem?_eq_none (by rw [arrv_size]; omega)]
end
end Go.Proofs.Ytkllgphhfkoknaa
/- Contract of tri.New: noughts above the diagonal, the variances given, and the least variance where none is given. -/
namespace Go.Proofs.Ytkllgphhfkoknaa
open Go.RowKit
set_option maxRecDepth 100000
def newF (n : Nat) (L : Nat → Int) : Nat → Int := fun i => if i < 276 then 0 else if i - 276 < n then varV (L (i - 276)) else 1
def newB (n : Nat) (L : Nat → Int) (i : Nat) : Bool := if i < n then varH (L i) else false
def newH (n : Nat) (L : Nat → Int) : Bool := orB (newB n L) 24
def newI (n : Nat) (L : Nat → Int) (k : Nat) : Nat → Int := fun i => if i < 276 then 0 else if i < 276 + k then (if i - 276 < n then varV (L (i - 276)) else 1) else 0
theorem new_any (c : Addr) (h : Bool) (p : Option Addr) (n cp : Nat) (L : Nat → Int) (w : World) (hc : w.cell? c = some (.bool h)) (hf : w.frozen? c = false) (hL : Slc w p n L) :
    Calls Try.prog 11 #[.pointer (some c), .slice p n cp] w fun e w' => e = .returned (.agg (arrv 300 (newF n L))) ∧ Upd c (h || newH n L) w w' := by
  have hcb := World.block_lt_of_cell? w c hc
  have HC := Lib.hid hc
  have HF := Lib.hid hf
  have HL := Lib.hid hL
  clear hc hf hL
  go_enter Try.func11, Try.ntmps11
  go_wp2_with fail
  go_loopw [7] (fun i wr => ∃ k : Nat, k ≤ 24 ∧ i = .int .i64 k ∧ Hid (Upd c (h || orB (newB n L) k) w wr ∧ Blk wr w.heap.size 25 300 (fun _ => 0) ∧ Blk wr (w.heap.size + 1) 25 300 (newI n L k))) (fun i _ => 24 - (intOf i).toNat)
  case atStart =>
    refine ⟨0, by omega, rfl, ?_, ?_, ?_⟩
    · rw [show (h || orB (newB n L) 0) = h from by simp [orB]]
      exact Upd.then (Upd.refl HC.out) (by (repeat (first | with_reducible exact Below.refl _ _ | with_reducible apply Below.drew | (with_reducible refine below_drewN ?_ _) | (with_reducible refine Below.alloc ?_ (by (try simp) <;> omega) _) | (with_reducible refine Below.setCell ?_ (by (try simp) <;> omega) _))))
    · rw [zcov]; exact (Blk.new w _ _ _).alloc _
    · rw [zcov]; exact (Blk.new1 w _ _ _ _).congr fun i hi => by simp only [newI]; split <;> first | rfl | (rw [if_neg (by omega)])
  case round =>
    obtain ⟨k, hk, rfl, R⟩ := hrel
    by_cases hlt : k < 24
    · have d1 : decide ((k : Int) < 24) = true := by simp; omega
      have b0 := R.out.2.2.cell (i := 276 + k) (by omega)
      have b1 := R.out.2.2.free (276 + k)
      by_cases hkn : k < n
      · have d2 : decide ((k : Int) < (n : Int)) = true := by simp; omega
        obtain ⟨pb, po, rfl, hcell⟩ := HL.out k hkn
        have hne : (⟨pb, po + k, none⟩ : Addr) ≠ c := fun e => by rw [e, HC.out] at hcell; cases hcell
        have hpl := World.block_lt_of_cell? _ _ hcell
        have U1 : Upd c (h || orB (newB n L) k) w (wr.setCell ⟨w.heap.size + 1, 276 + k, none⟩ (.int .i64 1)) := R.out.1.setCell (by simp) _
        have rc := U1.cellc HC.out
        have rf := (U1.frozen hcb).trans HF.out
        have hcell' : wr.cell? ⟨pb, po + k, none⟩ = some (.int .i64 (L k)) := (R.out.1.cell hpl (Ne.symm hne)).trans hcell
        have hpn : pb ≠ w.heap.size + 1 := by simp at hpl; omega
        have hcell2 : (wr.setCell ⟨w.heap.size + 1, 276 + k, none⟩ (.int .i64 1)).cell? ⟨pb, po + k, none⟩ = some (.int .i64 (L k)) := (World.cell?_setCell_other _ _ _ _ (by intro e; injection e; omega)).trans hcell'
        have CC := Lib.hid (variance_any c _ (L k) _ rc rf)
        have S0 := Lib.hid (R.out.2.2.set (276 + k) 1)
        have T0 := Lib.hid (R.out.2.1.other (a := ⟨w.heap.size + 1, 276 + k, none⟩) (by simp) (.int .i64 1))
        have HU1 := Lib.hid U1
        clear U1 rc rf hcell' R
        go_wp2_with (go_at_call 27; refine CC.out.mono ?_; rintro e w' ⟨rfl, hw'⟩; have U3 := (Upd.set c (h || orB (newB n L) k || varH (L k)) (wr.setCell ⟨w.heap.size + 1, 276 + k, none⟩ (.int .i64 1))).then (by rw [show varH (L k) = clampH (L k) 1 72057594037927936 from rfl, hw']; exact Below.refl _ _); have HU2 := Lib.hid (HU1.out.trans U3); have S2 := S0.out.upd U3 (by have := hcb; omega); have HR2 := Lib.hid (T0.out.upd U3 (by have := hcb; omega)); have c0 := S2.cell (i := 276 + k) (by omega); have c1 := S2.free (276 + k); have HS2 := Lib.hid S2; clear hw' U3 S2)
        go_roundw
        case rel =>
          refine ⟨k + 1, by omega, by go_num, ?_, HR2.out.other (by simp) _, ?_⟩
          · rw [show (h || orB (newB n L) (k + 1)) = (h || orB (newB n L) k || varH (L k)) from by simp [orB, newB, hkn, Bool.or_assoc]]
            exact HU2.out.setCell (by simp) _
          · refine (HS2.out.set _ _).congr fun i hi => ?_
            simp only [Go.Proofs.Ytkllgphhfkoknaa.upd, newI]
            by_cases h1 : i = 276 + k
            · subst h1; rw [if_pos rfl, if_neg (by omega), if_pos (by omega), show 276 + k - 276 = k by omega, if_pos hkn]; rfl
            · rw [if_neg h1, if_neg h1]; split <;> first | rfl | (split <;> split <;> first | rfl | omega)
        case measure => simp [intOf]; omega
      · have d2 : decide ((k : Int) < (n : Int)) = false := by simp; omega
        go_wp2_with fail
        go_roundw
        case rel =>
          refine ⟨k + 1, by omega, by go_num, ?_, R.out.2.1.other (by simp) _, ?_⟩
          · rw [show (h || orB (newB n L) (k + 1)) = (h || orB (newB n L) k) from by simp [orB, newB, hkn]]
            exact R.out.1.setCell (by simp) _
          · refine (R.out.2.2.set _ _).congr fun i hi => ?_
            simp only [Go.Proofs.Ytkllgphhfkoknaa.upd, newI]
            by_cases h1 : i = 276 + k
            · subst h1; rw [if_pos rfl, if_neg (by omega), if_pos (by omega), show 276 + k - 276 = k by omega, if_neg hkn]
            · rw [if_neg h1]; split; rfl; split <;> split <;> first | rfl | omega
        case measure => simp [intOf]; omega
    · have hk24 : k = 24 := by omega
      subst hk24
      have B0 := R.out.2.1
      have B1 := R.out.2.2
      have HB := Lib.hid R.out.1
      clear R hlt hk
      rw [show ((24 : Nat) : Int) = 24 from rfl]
      go_wp2_with (first | (refine wpList_load_row rfl 25 _ rfl (w.heap.size + 1) rfl 25 _ (0, 0) _ B1 Try.underlying25 rfl (icov.trans (by rw [arrv_size])) ?_) | (refine wpList_store_row rfl 25 _ _ rfl w.heap.size _ rfl rfl 25 _ B0 (icov.trans (by rw [arrv_size])) (by rw [arrv_size, arrv_size]) (oneCell_arrv _ _) ?_))
      refine bodyPost_ret (results_cell_row Try.results11 _ _ w.heap.size 25 (arrv 300 (newI n L 24)) (0, 0) _ rfl (setRow_heap _ _ _ _ _ _ B0) Try.underlying25 rfl (icov.trans (by rw [arrv_size]))) rfl ⟨?_, ?_⟩
      · rw [arrv_congr (g := newF n L) fun i hi => by simp only [newI, newF]; split <;> first | rfl | (rw [if_pos (by omega)])]
      · exact HB.out.then' (below_row (Below.refl _ _) (Nat.le_refl _) _)
end Go.Proofs.Ytkllgphhfkoknaa
/- Contract of thornton.With: Step with One and the noises given. -/
namespace Go.Proofs.Ytkllgphhfkoknaa
open Go.RowKit
set_option maxRecDepth 100000
end Go.Proofs.Ytkllgphhfkoknaa
/- Contract of fx.Add. -/
namespace Go.Proofs.Ytkllgphhfkoknaa
open Go.RowKit
set_option maxRecDepth 100000
theorem of_any (a : Int) (w : World) (h1 : -9223372036854775808 ≤ a) (h2 : a < 9223372036854775808) :
    Calls Try.prog 30 #[.int .i64 a] w fun e w' => e = .returned (Wv a) ∧ Below w.heap.size w w' := by
  go_enter Try.func30, Try.ntmps30
  go_wp2_with fail
  simp [bodyPost, results, Try.results30, go_sem]
  refine ⟨?_, ?_⟩
  · simp only [Wv, Value.agg.injEq, IntKind.wrap_u64]
    have : a / 9223372036854775808 = hi64 a := by unfold hi64; omega
    rw [this]; rfl
  · (repeat (first | with_reducible exact Below.refl _ _ | with_reducible apply Below.drew | (with_reducible refine below_drewN ?_ _) | (with_reducible refine Below.alloc ?_ (by (try simp) <;> omega) _) | (with_reducible refine Below.setCell ?_ (by (try simp) <;> omega) _)))
/-- wide.Of. -/
theorem wof_any (a : Int) (w : World) (h1 : -9223372036854775808 ≤ a) (h2 : a < 9223372036854775808) :
    Calls Try.prog 30 #[.int .i64 a] w fun e w' => e = .returned (.agg #[.int .i64 (hi64 a), .int .u64 (lo64 a)]) ∧ Below w.heap.size w w' := of_any a w h1 h2
structure AddR (c : Addr) (h : Bool) (A : Nat → Int) (w : World) (k : Nat) (wr : World) : Prop where
  upd : Upd c (h || sumB A k) w wr
  c0 : wr.cell? ⟨w.heap.size, 0, none⟩ = some (.int .i64 (hi64 (sumS A k)))
  c1 : wr.cell? ⟨w.heap.size, 1, none⟩ = some (.int .u64 (lo64 (sumS A k)))
  f0 : wr.frozen? ⟨w.heap.size, 0, none⟩ = false
  f1 : wr.frozen? ⟨w.heap.size, 1, none⟩ = false
  sz : w.heap.size < wr.heap.size
set_option maxHeartbeats 1000000 in
theorem fadd_any (c : Addr) (h : Bool) (A : Nat → Int) (pa oa ca n : Nat) (w : World) (hc : w.cell? c = some (.bool h)) (hf : w.frozen? c = false) (hn : n ≤ 100)
    (hA : ∀ i, i < n → w.cell? ⟨pa, oa + i, none⟩ = some (.int .i64 (A i))) :
    Calls Try.prog 19 #[.pointer (some c), .slice (some ⟨pa, oa, none⟩) n ca] w fun e w' =>
      e = .returned (.int .i64 (satV (sumS A n))) ∧ Upd c (h || sumB A n || satH (sumS A n)) w w' := by
  have hcb := World.block_lt_of_cell? w c hc
  have HA := Lib.hid hA
  have HC := Lib.hid hc
  have HF := Lib.hid hf
  clear hA hc hf
  go_enter Try.func19, Try.ntmps19
  go_wp2_with fail
  go_loopw [12] (fun i wr => ∃ k : Nat, k ≤ n ∧ i = .int .i64 k ∧ Hid (AddR c h A w k wr)) (fun i _ => n - (intOf i).toNat)
  case atStart =>
    refine ⟨0, Nat.zero_le _, rfl, ⟨?_, by simp [sumS, hi64], by simp [sumS, lo64], by simp, by simp, by simp⟩⟩
    rw [show (h || sumB A 0) = h from by simp [sumB]]
    exact Upd.then (Upd.refl HC.out) (by (repeat (first | with_reducible exact Below.refl _ _ | with_reducible apply Below.drew | (with_reducible refine below_drewN ?_ _) | (with_reducible refine Below.alloc ?_ (by (try simp) <;> omega) _) | (with_reducible refine Below.setCell ?_ (by (try simp) <;> omega) _))))
  case round =>
    obtain ⟨k, hk, rfl, R⟩ := hrel
    by_cases hlt : k < n
    · have a0 := HA.out k hlt
      have hsb := sumS_bd A k
      have u := R.out.upd
      have ra : wr.cell? ⟨pa, oa + k, none⟩ = some (.int .i64 (A k)) := (u.cell (World.block_lt_of_cell? w _ a0) (ne_of_cells HC.out a0)).trans a0
      have rc : wr.cell? c = some (.bool (h || sumB A k)) := u.cellc HC.out
      have rf : wr.frozen? c = false := (u.frozen hcb).trans HF.out
      have s0 := R.out.c0
      have s1 := R.out.c1
      have t0 := R.out.f0
      have t1 := R.out.f1
      have n0 := ne_of_cells rc s0
      have sA := satV_bd (A k)
      have RSZ := R.out.sz
      have U2 : Upd c (h || sumB A k || satH (A k)) wr (wr.drew.setCell c (.bool (h || sumB A k || satH (A k)))) := Upd.after (Below.drew (Below.refl _ _)) (Upd.set c _ wr.drew)
      have H2 := Lib.hid U2
      have HU := Lib.hid u
      have HSB := Lib.hid hsb
      have SA := Lib.hid sA
      clear U2 u hsb sA
      have hcS : ∀ o, c ≠ ⟨w.heap.size, o, none⟩ := fun o e => by rw [e] at hcb; simp at hcb
      go_wp2_with fail
      refine wp_region_M (fun w' => w'.cell? ⟨w.heap.size, 0, none⟩ = some (.int .i64 (hi64 (sumS A k))) ∧ w'.cell? ⟨w.heap.size, 1, none⟩ = some (.int .u64 (lo64 (sumS A k)))) 10 (by kernel_rfl) ?_ (fun hHeld => ?_)
      · exact ⟨s0, s1⟩
      refine wpAnyM_take 0 (v := ?_) rfl (by kernel_rfl) (fun _ _ _ h => h) (Or.inl ⟨by rfl, ?_⟩) (by assumption) ?_
      rotate_left
      · (intro wx hSw; (try dsimp only at hSw); go_simp; (try with_reducible rfl))
      (try simp only [Act.put, nA, nB, nC])
      refine wpAnyM_take 1 (v := ?_) rfl (by kernel_rfl) (fun _ _ _ h => h) (Or.inl ⟨by rfl, ?_⟩) (by assumption) ?_
      rotate_left
      · (intro wx hSw; (try dsimp only at hSw); go_simp; (try with_reducible rfl))
      (try simp only [Act.put, nA, nB, nC])
      refine wpAnyM_take 2 (v := ?_) rfl (by kernel_rfl) (fun _ _ _ h => h) (Or.inl ⟨by rfl, ?_⟩) (by assumption) ?_
      rotate_left
      · (intro wx hSw; (try dsimp only at hSw); go_simp; (try with_reducible rfl))
      (try simp only [Act.put, nA, nB, nC])
      refine wpAnyM_oneS 3 rfl (by kernel_rfl) (fun K hK => ?_)
      go_simp
      (refine (sat_any c (h || sumB A k) (A k) wr.drew rc rf).mono ?_); rintro e w' ⟨rfl, rfl⟩
      (try dsimp only)
      (try simp only [Act.put, nA, nB, nC])
      clear hHeld
      refine hK.out _ _ ?_ (fun hHeld => ?_)
      · simp [go_sem, *]
      clear hK K
      (try simp only [Act.put, nA, nB, nC])
      refine wpAnyM_oneS 4 rfl (by kernel_rfl) (fun K hK => ?_)
      go_simp
      (refine (wof_any _ _ (by have := SA.out; omega) (by have := SA.out; omega)).mono ?_); rintro e w3 ⟨rfl, hb3⟩; have U3 : Upd c (h || sumB A k || satH (A k)) wr w3 := Upd.then H2.out hb3; have kp := keep2 U3 s0 s1 n0 (hcS 1); have HU3 := Lib.hid U3; clear U3; have hz3 : w.heap.size < w3.heap.size := by have := HU3.out.size; omega
      (try dsimp only)
      (try simp only [Act.put, nA, nB, nC])
      clear hHeld
      refine hK.out _ _ ?_ (fun hHeld => ?_)
      · exact kp
      clear hK K
      (try simp only [Act.put, nA, nB, nC])
      refine wpAnyM_oneS 5 rfl (by kernel_rfl) (fun K hK => ?_)
      go_simp
      clear hHeld
      refine hK.out _ _ ?_ (fun hHeld => ?_)
      · obtain ⟨e1, e2⟩ := kp; simp [World.cell?_alloc_some, e1, e2]
      clear hK K
      (try simp only [Act.put, nA, nB, nC])
      refine wpAnyM_oneS 6 rfl (by kernel_rfl) (fun K hK => ?_)
      go_simp
      (refine (wadd2_any (sumS A k) (satV (A k)) (sumS A (k + 1)) w3.heap.size 2 _ (by have := HSB.out; omega) (by have := HSB.out; omega) (by have := SA.out; omega) (by have := SA.out; omega) rfl (by have := HSB.out; have := SA.out; simp only [sumS]; omega) (by have := HSB.out; have := SA.out; simp only [sumS]; omega) (by simp) (by simp) (by simp) (by simp)).mono ?_); rintro e w4 ⟨rfl, hb4⟩; have U4 : Upd c (h || sumB A k || satH (A k)) wr w4 := Upd.then (Upd.alloc HU3.out _) hb4; have kp2 := keep2 U4 s0 s1 n0 (hcS 1); have fz0 : w4.frozen? ⟨w.heap.size, 0, none⟩ = false := (U4.frozen RSZ).trans t0; have fz1 : w4.frozen? ⟨w.heap.size, 1, none⟩ = false := (U4.frozen RSZ).trans t1; have HU4 := Lib.hid U4; clear U4; obtain ⟨y0, y1⟩ := kp2
      (try dsimp only)
      (try simp only [Act.put, nA, nB, nC])
      clear hHeld
      refine hK.out _ _ ?_ (fun hHeld => ?_)
      · exact ⟨y0, y1⟩
      clear hK K
      (try simp only [Act.put, nA, nB, nC])
      refine wpAnyM_take 7 (v := ?_) rfl (by kernel_rfl) (fun _ _ _ h => h) (Or.inl ⟨by rfl, ?_⟩) (by assumption) ?_
      rotate_left
      · (intro wx hSw; (try dsimp only at hSw); go_simp; (try with_reducible rfl))
      (try simp only [Act.put, nA, nB, nC])
      refine wpAnyM_take 8 (v := ?_) rfl (by kernel_rfl) (fun _ _ _ h => h) (Or.inl ⟨by rfl, ?_⟩) (by assumption) ?_
      rotate_left
      · (intro wx hSw; (try dsimp only at hSw); go_simp; (try with_reducible rfl))
      (try simp only [Act.put, nA, nB, nC])
      refine wpAnyM_takeW 9 (v := ?_) rfl (by kernel_rfl) (fun _ _ _ h => h) (Or.inl ⟨by rfl, ?_⟩) (.inr (by assumption)) ?_
      rotate_left
      · (intro wx hSw; (try dsimp only at hSw); go_simp; (try with_reducible rfl))
      (try simp only [Act.put, nA, nB, nC])
      refine wpAnyM_one 10 rfl (by kernel_rfl) (fun K hK => ?_)
      go_simp
      refine hK.out _ _ (.inl (by kernel_rfl)) (fun _ => ?_)
      clear hK K
      (try simp only [Act.put, nA, nB, nC])
      refine wpAnyM_done (by kernel_rfl) ?_ _
      go_wp2_with fail
      go_roundw
      case rel =>
        refine ⟨k + 1, by omega, by go_num, ?_⟩
        have U := HU.out.trans HU4.out
        have tc := two_cells y0 y1 (.int .i64 (hi64 (sumS A (k + 1)))) (.int .u64 (lo64 (sumS A (k + 1))))
        refine ⟨?_, tc.1, tc.2, by rw [World.frozen?_setCell, World.frozen?_setCell]; exact fz0, by rw [World.frozen?_setCell, World.frozen?_setCell]; exact fz1, ?_⟩
        · rw [show (h || sumB A (k + 1)) = (h || sumB A k || satH (A k)) from by simp [sumB, Bool.or_assoc]]
          exact (U.setCell (Nat.le_refl _) _).setCell (Nat.le_refl _) _
        · have := HU4.out.size; simp [World.setCell]; omega
      case measure => simp [intOf]; omega
    · have hkn : k = n := by omega
      subst hkn
      have u := R.out.upd
      have sb := sumS_bd A k
      have rc : wr.cell? c = some (.bool (h || sumB A k)) := u.cellc HC.out
      have rf : wr.frozen? c = false := (u.frozen hcb).trans HF.out
      have s0 := R.out.c0
      have s1 := R.out.c1
      have RSZ := R.out.sz
      have HS := Lib.hid sb
      have HU := Lib.hid u
      clear u sb
      go_wp2_with fail
      refine (round_any (sumS A k) 0 _ (by decide) (by decide) (by have := HS.out; omega) (by have := HS.out; omega)).mono ?_; rintro e w5 ⟨rfl, hb5⟩
      have rc5 : w5.cell? c = some (.bool (h || sumB A k)) := (hb5.cell (World.block_lt_of_cell? _ _ rc)).trans rc
      have rf5 : w5.frozen? c = false := (hb5.frozen (World.block_lt_of_cell? _ _ rc)).trans rf
      have s5 : w5.cell? ⟨w.heap.size, 0, none⟩ = some (.int .i64 (hi64 (sumS A k))) := (hb5.cell RSZ).trans s0
      have H5 := Lib.hid hb5
      clear hb5 rc rf s0 s1
      go_wp2_with fail
      refine (end_any c _ (rsh (sumS A k) 0) _ _ rc5 rf5 (fun hn => by rw [hi_neg]; exact rsh_neg _ _ hn)).mono ?_; rintro e w6 ⟨rfl, rfl⟩
      go_wp2_with fail
      go_ret
      rw [rsh_zero]
      exact ⟨rfl, HU.out.trans (Upd.after H5.out (Upd.set c _ _))⟩
end Go.Proofs.Ytkllgphhfkoknaa
/- bierman's numbers: what an update reckons with, and what it makes. No program. -/
namespace Go.Proofs.Ytkllgphhfkoknaa
/-- The first n numbers clamped, the others as they were. -/
def satS (H : Nat → Int) (n : Nat) : Nat → Int := fun i => if i < n then satV (H i) else H i
/-- Of the factors p (conditioned) and the row h (clamped): f, v, a. -/
def bkF (p h : Nat → Int) (j : Nat) : Int := dotV 30 h (colF p j) (j + 1)
def bkV (p h : Nat → Int) (j : Nat) : Int := mulV (p (276 + j)) (bkF p h j) 30
def bkA (p h : Nat → Int) (r : Int) : Nat → Int | 0 => r | j + 1 => addV (bkA p h r j) (mulV (bkF p h j) (bkV p h j) 30)
def bkFH (p h : Nat → Int) (j : Nat) : Bool := dotH 30 h (colF p j) (j + 1)
def bkVH (p h : Nat → Int) (j : Nat) : Bool := mulH (p (276 + j)) (bkF p h j) 30
def bkAH (p h : Nat → Int) (r : Int) (j : Nat) : Bool := mulH (bkF p h j) (bkV p h j) 30 || addH (bkA p h r j) (mulV (bkF p h j) (bkV p h j) 30)
def bkS (p h : Nat → Int) (r : Int) (j : Nat) : Bool := bkFH p h j || bkVH p h j || bkAH p h r j
def lkH (p h : Nat → Int) (r : Int) : Bool := condH p || orB (fun i => satH (h i)) 24 || varH r || orB (bkS (condF p) (satS h 24) (varV r)) 24
/-- Update: row j of the gains' numbers, and the factors. -/
def upX (p h : Nat → Int) (r : Int) (j : Nat) : Int := -divV (bkF p h j) (bkA p h r j) 44
def upD (p h : Nat → Int) (r : Int) (j : Nat) : Int := varV (mdivV (p (276 + j)) (bkA p h r j) (bkA p h r (j + 1)))
/-- b, when j columns are done and of column j the first m rows. -/
def upB (p h : Nat → Int) : Nat → Nat → Int
  | 0 => fun _ => 0
  | j + 1 => fun i => if i = j then bkV p h j else if i < j then addV (upB p h j i) (mulV (uV p i j) (bkV p h j) 30) else upB p h j i
def upBm (p h : Nat → Int) (j m : Nat) : Nat → Int :=
  fun i => if i = j then bkV p h j else if i < m then addV (upB p h j i) (mulV (uV p i j) (bkV p h j) 30) else upB p h j i
def upU (p h : Nat → Int) (r : Int) (j i : Nat) : Int := addV (uV p i j) (mulV (upB p h j i) (upX p h r j) 44)
/-- The factors: column j begun, and m of its numbers made. -/
def upOm (O p h : Nat → Int) (r : Int) (j : Nat) : Nat → Nat → Int | 0 => upd O (276 + j) (upD p h r j) | m + 1 => upd (upOm O p h r j m) (pl m j) (upU p h r j m)
def upO (p h : Nat → Int) (r : Int) : Nat → Nat → Int | 0 => p | j + 1 => upOm (upO p h r j) p h r j j
def upDH (p h : Nat → Int) (r : Int) (j : Nat) : Bool := mdivH (p (276 + j)) (bkA p h r j) (bkA p h r (j + 1)) || varH (mdivV (p (276 + j)) (bkA p h r j) (bkA p h r (j + 1)))
def upXH (p h : Nat → Int) (r : Int) (j : Nat) : Bool := divH (bkF p h j) (bkA p h r j) 44
def upUH (p h : Nat → Int) (r : Int) (j i : Nat) : Bool := mulH (upB p h j i) (upX p h r j) 44 || addH (uV p i j) (mulV (upB p h j i) (upX p h r j) 44)
def upBH (p h : Nat → Int) (j i : Nat) : Bool := mulH (uV p i j) (bkV p h j) 30 || addH (upB p h j i) (mulV (uV p i j) (bkV p h j) 30)
def upRH (p h : Nat → Int) (r : Int) (j i : Nat) : Bool := upUH p h r j i || upBH p h j i
def upCH (p h : Nat → Int) (r : Int) (j : Nat) : Bool := upDH p h r j || upXH p h r j || orB (upRH p h r j) j
def upG (p h : Nat → Int) (r : Int) (i : Nat) : Int := divV (upB p h 24 i) (bkA p h r 24) 30
def upGH (p h : Nat → Int) (r : Int) (i : Nat) : Bool := divH (upB p h 24 i) (bkA p h r 24) 30
/-- Update's answer, of what was given. -/
def updP (p h : Nat → Int) (r : Int) : Nat → Int := upO (condF p) (satS h 24) (varV r) 24
def updG (p h : Nat → Int) (r : Int) : Nat → Int := upG (condF p) (satS h 24) (varV r)
def updS (p h : Nat → Int) (r : Int) : Int := bkA (condF p) (satS h 24) (varV r) 24
def updH (p h : Nat → Int) (r : Int) : Bool := lkH p h r || orB (upCH (condF p) (satS h 24) (varV r)) 24 || orB (upGH (condF p) (satS h 24) (varV r)) 24
end Go.Proofs.Ytkllgphhfkoknaa
