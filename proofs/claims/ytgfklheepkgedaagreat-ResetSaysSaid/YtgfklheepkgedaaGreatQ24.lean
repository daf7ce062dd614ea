/- Contracts of the program's functions and plain laws, part 24: they hold for all arguments. -/
import Derived.Test.YtgfklheepkgedaaGreatQ20
import Derived.Test.YtgfklheepkgedaaGreatQ22
import Derived.Test.YtgfklheepkgedaaGreatQ19
import Derived.Test.YtgfklheepkgedaaGreatQ23
import Derived.Test.YtgfklheepkgedaaGreatQ13
import Derived.Test.YtgfklheepkgedaaGreatQ03
import Derived.Test.YtgfklheepkgedaaGreatQ17
import Derived.Test.YtgfklheepkgedaaGreatQ12
import Derived.Test.YtgfklheepkgedaaGreatQ04
import Derived.Deep.AppendLies
import Derived.Deep.MidRow
import Derived.Deep.Upon
import Derived.Test.YtgfklheepkgedaaGreatQ15
import Derived.Test.YtgfklheepkgedaaGreatQ07
/- What the reference's jumps share (printed by wip/gen_rjumps.py). -/
namespace Go.Proofs.YtgfklheepkgedaaGreat
open Go.RowKit
open Go
set_option maxRecDepth 100000
theorem zdv : (#[.int .i64 0, .int .i64 0, .int .i64 0, .int .i64 0, .int .i64 0, .int .i64 0, .int .i64 0, .int .i64 0, .int .i64 0, .int .i64 0] : Array Value) = arrv 10 (fun _ => 0) := by kernel_rfl
def v3I (a b c : Int) : Nat → Int := fun i => if i = 0 then a else if i = 1 then b else c
theorem run_build_rv3 {o : Oper} {ev : Operand → Value} {w : World} (x y z : Operand) (ho : o.op = .build 44 #[(0, x), (1, y), (2, z)]) {a b c : Int} (hx : ev x = .int .i64 a) (hy : ev y = .int .i64 b) (hz : ev z = .int .i64 c) :
  (execOp ev o).run Tryz.prog w = .ok (.value (.agg (arrv 3 (v3I a b c)))) w := by
 unfold execOp
 simp only [ho, List.map_toArray, List.map_cons, List.map_nil, hx, hy, hz]
 kernel_rfl
theorem rvund : Tryz.prog.underlying 44 = some (.array 3 2) := by kernel_rfl
theorem rvlen : Tryz.prog.arrayLen 44 = 3 := by kernel_rfl
theorem run_slice_rv {o : Oper} {ev : Operand → Value} {w : World} (x : Operand) (ho : o.op = .slice 44 x none none none) (g off : Nat) (hx : ev x = .pointer (some ⟨g, off, none⟩)) :
  (execOp ev o).run Tryz.prog w = .ok (.value (.slice (some ⟨g, off, none⟩) 3 3)) w := by
 have h := run_sliceAt_array_all (P := Tryz.prog) w 44 ⟨g, off, none⟩ rvund
 unfold execOp
 simp only [ho, hx, Option.map_none]
 rw [Sem.run_bind, h]
 have hs : (sizeOf (Tryz.prog.elem 44)).run Tryz.prog w = .ok 1 w := by rw [show Tryz.prog.elem 44 = 2 from by kernel_rfl]; simp [go_sem]
 rw [hs, rvlen]
 simp [slicedAt, go_sem]
/-- A slice of n like numbers. -/
def TmR (g n : Nat) (L : Nat → Int) (wr : World) : Prop := g < wr.heap.size ∧ ∀ i, i < n → wr.cell? ⟨g, 0 + i, none⟩ = some (.int .i64 (L i))
section
variable {c : Addr} {h h' : Bool} {g n top : Nat} {L : Nat → Int} {E : List Lx} {w wr w' : World}
theorem TmR.below (s : TmR g n L wr) (b : Below wr.heap.size wr w') : TmR g n L w' := ⟨Nat.lt_of_lt_of_le s.1 b.size, fun i hi => (b.cell (p := ⟨g, 0 + i, none⟩) s.1).trans (s.2 i hi)⟩
theorem TmR.upd (s : TmR g n L wr) (u : Upd c h' wr w') (hg : g ≠ c.block) : TmR g n L w' := ⟨Nat.lt_of_lt_of_le s.1 u.size, fun i hi => (World.cell?_of_block (a := ⟨g, 0 + i, none⟩) (u.block s.1 hg)).trans (s.2 i hi)⟩
theorem TmR.row (s : TmR g n L wr) (k : Nat) (cs : Array Value) (hg : g ≠ k) : TmR g n L (wr.setRow k cs) := ⟨by rw [setRow_size]; exact s.1, fun i hi => (World.cell?_of_block (a := ⟨g, 0 + i, none⟩) (Go.setRow_other wr k g cs hg)).trans (s.2 i hi)⟩
theorem TmR.slc (s : TmR g n L wr) : Slc wr (some ⟨g, 0, none⟩) n L := fun i hi => ⟨g, 0, rfl, s.2 i hi⟩
theorem tm_own {B : Nat} {v : Value} (o : Own wr B 2 v n L) (hn : 0 < n) : ∃ g cp, v = .slice (some ⟨g, 0, none⟩) n cp ∧ B ≤ g ∧ TmR g n L wr := by
 obtain ⟨g, cp, e, h1, h2, h3⟩ := o.slc hn
 exact ⟨g, cp, e, h1, h2, h3⟩
theorem ls_row3 {a b d T U V p m k : Nat} {F G K F' G' K' : Nat → Int} (s : LsR c h (⟨a, T, p, F⟩ :: ⟨b, U, m, G⟩ :: ⟨d, V, k, K⟩ :: E) top w wr) (hab : a ≠ b) (had : a ≠ d) (hbd : b ≠ d) :
  Blk (((wr.setRow a (arrv p F')).setRow b (arrv m G')).setRow d (arrv k K')) a T p F' ∧ Blk (((wr.setRow a (arrv p F')).setRow b (arrv m G')).setRow d (arrv k K')) b U m G' ∧ Blk (((wr.setRow a (arrv p F')).setRow b (arrv m G')).setRow d (arrv k K')) d V k K' ∧ Upd c h w (((wr.setRow a (arrv p F')).setRow b (arrv m G')).setRow d (arrv k K')) := by
 have h0 := s.ex _ (.head _)
 have h1 := s.ex _ (.tail _ (.head _))
 have h2 := s.ex _ (.tail _ (.tail _ (.head _)))
 have b0 : Blk wr a T p F := h0.1
 have b1 : Blk wr b U m G := h1.1
 have b2 : Blk wr d V k K := h2.1
 refine ⟨((b0.setRow F').setRow_other _ hab).setRow_other _ had, ((b1.setRow_other _ (Ne.symm hab)).setRow G').setRow_other _ hbd, ((b2.setRow_other _ (Ne.symm had)).setRow_other _ (Ne.symm hbd)).setRow K', ?_⟩
 exact ((s.upd.then' (below_row (Below.refl _ _) h0.2.1 _)).then' (below_row (Below.refl _ _) h1.2.1 _)).then' (below_row (Below.refl _ _) h2.2.1 _)
end
theorem irv : (Tryz.prog.info? 44).map (·.size) = some 3 := by kernel_rfl
theorem mid_v3 (T D : Nat → Int) : putF T 4 3 (v3I (D 0) (D 1) (D 2)) = midF T 4 3 D := by
 funext i
 unfold putF midF v3I
 split
 ·rename_i h
  rcases (show i = 4 ∨ i = 5 ∨ i = 6 by omega) with rfl | rfl | rfl <;> rfl
 ·rfl
theorem mid_h2 (D : Nat → Int) : putF dl0 7 3 (v3I (D 0) (D 1) 0) = midF dl0 7 2 D := by
 funext i
 unfold putF midF
 by_cases h : 7 ≤ i ∧ i < 10
 ·rcases (show i = 7 ∨ i = 8 ∨ i = 9 by omega) with rfl | rfl | rfl <;> rfl
 ·rw [if_neg (by omega), if_neg (by omega)]
theorem mid_h1 (D : Nat → Int) : putF dl0 7 3 (v3I 0 0 (D 0)) = midF dl0 9 1 D := by
 funext i
 unfold putF midF
 by_cases h : 7 ≤ i ∧ i < 10
 ·rcases (show i = 7 ∨ i = 8 ∨ i = 9 by omega) with rfl | rfl | rfl <;> rfl
 ·rw [if_neg (by omega), if_neg (by omega)]
theorem rtu_with (S Q : Nat → Int) : rtuK S Q 4 = withF S 0 4 Q := by
 funext i
 unfold rtuK withF
 by_cases h : i < 4
 ·rw [if_pos h, if_pos (by omega)]; congr 1
 ·rw [if_neg h, if_neg (by omega)]
theorem ry_new {c : Addr} {h : Bool} {E : List Lx} {top : Nat} {w wr : World} (s : LsR c h E top w wr) : Blk (wr.alloc (.cells #[.int .i64 0, .int .i64 0, .int .i64 0, .int .i64 0] 43)) wr.heap.size 43 4 (fun _ => 0) ∧ top ≤ wr.heap.size := by
 rw [z4q]
 exact ⟨Blk.new _ _ _ _, s.le⟩
theorem rk3 {c : Addr} {h : Bool} {E : List Lx} {top : Nat} {w wr : World} {x y z : Lx} {a b d T U V p m k : Nat} {F G K : Nat → Int} (s : LsR c h (x :: y :: z :: ⟨a, T, p, F⟩ :: ⟨b, U, m, G⟩ :: ⟨d, V, k, K⟩ :: E) top w wr) : Blk wr a T p F ∧ Blk wr b U m G ∧ Blk wr d V k K := ⟨s.e3, s.e4, s.e5⟩
theorem rkR {x : World} {a b d T U V p m k : Nat} {F G K : Nat → Int} (h : Blk x a T p F ∧ Blk x b U m G ∧ Blk x d V k K) {i : Nat} (cs : Array Value) (h1 : a ≠ i) (h2 : b ≠ i) (h3 : d ≠ i) : Blk (x.setRow i cs) a T p F ∧ Blk (x.setRow i cs) b U m G ∧ Blk (x.setRow i cs) d V k K := ⟨h.1.setRow_other _ h1, h.2.1.setRow_other _ h2, h.2.2.setRow_other _ h3⟩
theorem rj_flag (a b c d : Bool) : (a || b || c || d) = (a || c || d || b) := by cases a <;> cases b <;> cases c <;> cases d <;> rfl
end Go.Proofs.YtgfklheepkgedaaGreat
/- The sum of many numbers in two parts (plain). No program. -/
namespace Go.Proofs.YtgfklheepkgedaaGreat
end Go.Proofs.YtgfklheepkgedaaGreat
/- The reference's sum of one number of all jumps. -/
namespace Go.Proofs.YtgfklheepkgedaaGreat
open Go.RowKit
open Go
set_option maxRecDepth 100000
def AlR (c : Addr) (b : Bool) (w wr : World) : Prop := Upd c b w wr ∧ wr.cell? c = some (.bool b) ∧ wr.frozen? c = false
theorem AlR.drew {c : Addr} {b : Bool} {w wr : World} (s : AlR c b w wr) : AlR c b w wr.drew := ⟨s.1.drew, s.2.1, s.2.2⟩
end Go.Proofs.YtgfklheepkgedaaGreat
/- The reference's Join of jumps. -/
namespace Go.Proofs.YtgfklheepkgedaaGreat
open Go.RowKit
open Go
set_option maxRecDepth 100000
theorem zdr : (#[.int .i64 0, .int .i64 0, .int .i64 0, .int .i64 0, .int .i64 0, .int .i64 0, .int .i64 0, .int .i64 0, .int .i64 0, .int .i64 0] : Array Value) = arrv 10 (fun _ => 0) := by kernel_rfl
end Go.Proofs.YtgfklheepkgedaaGreat
/- Slices of reset.Delta that a call builds by append (printed by wip/gen_own.py out of the outputs' texts). -/
namespace Go.Proofs.YtgfklheepkgedaaGreat
open Go.RowKit
open Go
set_option maxRecDepth 100000
def outc_A (n : Nat) (L : Nat → Nat → Int) : List Value := (List.range n).flatMap fun i => (List.range 10).map fun j => Value.int .i64 (L i j)
theorem outc_succ_A (n : Nat) (L : Nat → Nat → Int) : outc_A (n + 1) L = outc_A n L ++ (List.range 10).map fun j => Value.int .i64 (L n j) := by
 simp [outc_A, List.range_succ, List.flatMap_append]
theorem outc_len_A : ∀ (n : Nat) (L : Nat → Nat → Int), (outc_A n L).length = n * 10
 | 0, _ => rfl
 | n + 1, L => by rw [outc_succ_A, List.length_append, outc_len_A n L]; simp; omega
theorem outc_get_A {L : Nat → Nat → Int} : ∀ {n k : Nat}, k < n → ∀ j, j < 10 → (outc_A n L)[k * 10 + j]? = some (.int .i64 (L k j))
 | 0, _, h, _, _ => by omega
 | n + 1, k, h, j, hj => by
  have hl := outc_len_A n L
  rw [outc_succ_A]
  by_cases e : k = n
  ·subst e
   rw [List.getElem?_append_right (by omega), hl, show k * 10 + j - k * 10 = j by omega]
   simp [hj]
  ·rw [List.getElem?_append_left (by omega)]
   exact outc_get_A (n := n) (k := k) (by omega) j hj
theorem outc_congr_A {L M : Nat → Nat → Int} {n : Nat} (h : ∀ i, i < n → ∀ j, j < 10 → L i j = M i j) : outc_A n L = outc_A n M := by
 apply List.ext_getElem?
 intro i
 by_cases hi : i < n * 10
 ·have a := outc_get_A (L := L) (n := n) (k := i / 10) (by omega) (i % 10) (by omega)
  have b := outc_get_A (L := M) (n := n) (k := i / 10) (by omega) (i % 10) (by omega)
  rw [show i / 10 * 10 + i % 10 = i by omega] at a b
  rw [a, b, h _ (by omega) _ (by omega)]
 ·rw [List.getElem?_eq_none (by rw [outc_len_A]; omega), List.getElem?_eq_none (by rw [outc_len_A]; omega)]
def OwnO_A (w : World) (v : Value) (n : Nat) (L : Nat → Nat → Int) : Prop := w.ownsRow 0 40 10 v n (outc_A n L)
theorem OwnO_A.nil (w : World) (L : Nat → Nat → Int) : OwnO_A w (.slice none 0 0) 0 L := World.ownsRow_nil w 0 40 10
theorem OwnO_A.kept {w w' : World} {v : Value} {n : Nat} {L : Nat → Nat → Int} (h : OwnO_A w v n L) (hs : ∀ k, k < w.heap.size → some k = v.ownBlock → w'.heap[k]? = w.heap[k]?) : OwnO_A w' v n L := by
 refine ⟨h.1, ?_⟩
 rcases h.2 with hn | ⟨g, cap, cur, rfl, hb, hgg, rest⟩
 ·exact .inl hn
 ·refine .inr ⟨g, cap, cur, rfl, hb, ?_, rest⟩
  rw [hs g (Array.getElem?_eq_some_iff.1 hgg).1 rfl]
  exact hgg
theorem OwnO_A.below {w w' : World} {v : Value} {n : Nat} {L : Nat → Nat → Int} (h : OwnO_A w v n L) (b : Below w.heap.size w w') : OwnO_A w' v n L := h.kept fun k hk _ => b.block k hk
theorem OwnO_A.congr {w : World} {v : Value} {n : Nat} {L M : Nat → Nat → Int} (h : OwnO_A w v n L) (e : ∀ i, i < n → ∀ j, j < 10 → L i j = M i j) : OwnO_A w v n M := by
 unfold OwnO_A at *; rw [← outc_congr_A e]; exact h
theorem OwnO_A.lt {w : World} {v : Value} {n : Nat} {L : Nat → Nat → Int} (h : OwnO_A w v n L) {g : Nat} (e : v.ownBlock = some g) : g < w.heap.size := (World.ownsRow.lt h g e).2
end Go.Proofs.YtgfklheepkgedaaGreat
/- Slices of astrolaberef28.Delta that a call builds by append (printed by wip/gen_own.py out of the outputs' texts). -/
namespace Go.Proofs.YtgfklheepkgedaaGreat
open Go.RowKit
open Go
set_option maxRecDepth 100000
def outc_B (n : Nat) (L : Nat → Nat → Int) : List Value := (List.range n).flatMap fun i => (List.range 10).map fun j => Value.int .i64 (L i j)
theorem outc_succ_B (n : Nat) (L : Nat → Nat → Int) : outc_B (n + 1) L = outc_B n L ++ (List.range 10).map fun j => Value.int .i64 (L n j) := by
 simp [outc_B, List.range_succ, List.flatMap_append]
theorem outc_len_B : ∀ (n : Nat) (L : Nat → Nat → Int), (outc_B n L).length = n * 10
 | 0, _ => rfl
 | n + 1, L => by rw [outc_succ_B, List.length_append, outc_len_B n L]; simp; omega
theorem outc_get_B {L : Nat → Nat → Int} : ∀ {n k : Nat}, k < n → ∀ j, j < 10 → (outc_B n L)[k * 10 + j]? = some (.int .i64 (L k j))
 | 0, _, h, _, _ => by omega
 | n + 1, k, h, j, hj => by
  have hl := outc_len_B n L
  rw [outc_succ_B]
  by_cases e : k = n
  ·subst e
   rw [List.getElem?_append_right (by omega), hl, show k * 10 + j - k * 10 = j by omega]
   simp [hj]
  ·rw [List.getElem?_append_left (by omega)]
   exact outc_get_B (n := n) (k := k) (by omega) j hj
theorem outc_congr_B {L M : Nat → Nat → Int} {n : Nat} (h : ∀ i, i < n → ∀ j, j < 10 → L i j = M i j) : outc_B n L = outc_B n M := by
 apply List.ext_getElem?
 intro i
 by_cases hi : i < n * 10
 ·have a := outc_get_B (L := L) (n := n) (k := i / 10) (by omega) (i % 10) (by omega)
  have b := outc_get_B (L := M) (n := n) (k := i / 10) (by omega) (i % 10) (by omega)
  rw [show i / 10 * 10 + i % 10 = i by omega] at a b
  rw [a, b, h _ (by omega) _ (by omega)]
 ·rw [List.getElem?_eq_none (by rw [outc_len_B]; omega), List.getElem?_eq_none (by rw [outc_len_B]; omega)]
def OwnO_B (w : World) (v : Value) (n : Nat) (L : Nat → Nat → Int) : Prop := w.ownsRow 0 46 10 v n (outc_B n L)
theorem OwnO_B.nil (w : World) (L : Nat → Nat → Int) : OwnO_B w (.slice none 0 0) 0 L := World.ownsRow_nil w 0 46 10
theorem OwnO_B.kept {w w' : World} {v : Value} {n : Nat} {L : Nat → Nat → Int} (h : OwnO_B w v n L) (hs : ∀ k, k < w.heap.size → some k = v.ownBlock → w'.heap[k]? = w.heap[k]?) : OwnO_B w' v n L := by
 refine ⟨h.1, ?_⟩
 rcases h.2 with hn | ⟨g, cap, cur, rfl, hb, hgg, rest⟩
 ·exact .inl hn
 ·refine .inr ⟨g, cap, cur, rfl, hb, ?_, rest⟩
  rw [hs g (Array.getElem?_eq_some_iff.1 hgg).1 rfl]
  exact hgg
theorem OwnO_B.below {w w' : World} {v : Value} {n : Nat} {L : Nat → Nat → Int} (h : OwnO_B w v n L) (b : Below w.heap.size w w') : OwnO_B w' v n L := h.kept fun k hk _ => b.block k hk
theorem OwnO_B.congr {w : World} {v : Value} {n : Nat} {L M : Nat → Nat → Int} (h : OwnO_B w v n L) (e : ∀ i, i < n → ∀ j, j < 10 → L i j = M i j) : OwnO_B w v n M := by
 unfold OwnO_B at *; rw [← outc_congr_B e]; exact h
theorem OwnO_B.lt {w : World} {v : Value} {n : Nat} {L : Nat → Nat → Int} (h : OwnO_B w v n L) {g : Nat} (e : v.ownBlock = some g) : g < w.heap.size := (World.ownsRow.lt h g e).2
end Go.Proofs.YtgfklheepkgedaaGreat
/- A call's own blocks as a list, where no flag is at hand. -/
namespace Go.Proofs.YtgfklheepkgedaaGreat
open Go.RowKit
open Go
set_option maxRecDepth 100000
structure BsR (E : List Lx) (top : Nat) (w wr : World) : Prop where
 below : Below w.heap.size w wr
 ex : ∀ e, e ∈ E → Blk wr e.b e.T e.n e.F ∧ w.heap.size ≤ e.b ∧ e.b < top
 lim : w.heap.size ≤ top
 le : top ≤ wr.heap.size
section
variable {E : List Lx} {top : Nat} {w wr w' : World}
theorem bs_nil (w : World) : BsR [] w.heap.size w w := ⟨Below.refl _ _, (fun e he => by cases he), Nat.le_refl _, Nat.le_refl _⟩
theorem BsR.low (s : BsR E top w wr) (u : Below top wr w') (hz : top ≤ w'.heap.size) : BsR E top w w' :=
 ⟨s.below.trans (u.mono s.lim), fun e he => ⟨(u.block _ (s.ex e he).2.2).trans (s.ex e he).1, (s.ex e he).2⟩, s.lim, hz⟩
theorem BsR.down (s : BsR E top w wr) (u : Below wr.heap.size wr w') : BsR E top w w' := s.low (u.mono s.le) (Nat.le_trans s.le u.size)
theorem BsR.drew (s : BsR E top w wr) : BsR E top w wr.drew := s.down (Below.drew (Below.refl _ _))
theorem BsR.alloc (s : BsR E top w wr) (o : Obj) : BsR E top w (wr.alloc o) := s.down ((Below.refl _ _).alloc (Nat.le_refl _) o)
theorem BsR.lay (s : BsR E top w wr) (T n : Nat) (F : Nat → Int) : BsR (⟨wr.heap.size, T, n, F⟩ :: E) (wr.heap.size + 1) w (wr.alloc (.cells (arrv n F) T)) := by
 have k := s.alloc (.cells (arrv n F) T)
 have hl := s.lim
 have hle := s.le
 refine ⟨k.below, fun e he => ?_, by omega, by simp⟩
 rcases List.mem_cons.1 he with rfl | he
 ·exact ⟨Blk.new _ _ _ _, by simp only; omega, by simp⟩
 ·have := k.ex e he
  exact ⟨this.1, this.2.1, by omega⟩
theorem BsR.e0 {b T n : Nat} {F : Nat → Int} (s : BsR (⟨b, T, n, F⟩ :: E) top w wr) : Blk wr b T n F := (s.ex _ (.head _)).1
theorem BsR.tail {a : Lx} (s : BsR (a :: E) top w wr) : BsR E top w wr := ⟨s.below, fun e he => s.ex e (.tail _ he), s.lim, s.le⟩
theorem BsR.e1 {a : Lx} {b T n : Nat} {F : Nat → Int} (s : BsR (a :: ⟨b, T, n, F⟩ :: E) top w wr) : Blk wr b T n F := s.tail.e0
theorem BsR.e2 {a a2 : Lx} {b T n : Nat} {F : Nat → Int} (s : BsR (a :: a2 :: ⟨b, T, n, F⟩ :: E) top w wr) : Blk wr b T n F := s.tail.e1
theorem BsR.row {b T n : Nat} {F : Nat → Int} (s : BsR (⟨b, T, n, F⟩ :: E) top w wr) (hn : ∀ e, e ∈ E → e.b ≠ b) (G : Nat → Int) : BsR (⟨b, T, n, G⟩ :: E) top w (wr.setRow b (arrv n G)) := by
 have h0 := s.ex _ (.head _)
 refine ⟨s.below.trans (below_row (Below.refl _ _) h0.2.1 _), fun e he => ?_, s.lim, by rw [setRow_size]; exact s.le⟩
 rcases List.mem_cons.1 he with rfl | he
 ·exact ⟨h0.1.setRow G, h0.2⟩
 ·have := s.ex e (.tail _ he)
  exact ⟨this.1.setRow_other _ (hn e he), this.2⟩
theorem BsR.sub {E' : List Lx} (s : BsR E top w wr) (hs : ∀ e, e ∈ E' → e ∈ E) : BsR E' top w wr := ⟨s.below, fun e he => s.ex e (hs e he), s.lim, s.le⟩
end
end Go.Proofs.YtgfklheepkgedaaGreat
/- The walk of ResetJoins. -/
namespace Go.Proofs.YtgfklheepkgedaaGreat
open Go.RowKit
open Go
set_option maxRecDepth 100000
theorem idl0 : (Tryz.prog.info? 40).map (·.size) = some 10 := by kernel_rfl
theorem run_build_rd3 {o : Oper} {ev : Operand → Value} {w : World} (x y z : Operand) (ho : o.op = .build 46 #[(0, x), (1, y), (2, z)]) {D : Nat → Int} (hx : ev x = .agg (arrv 4 (fun i => D (0 + i)))) (hy : ev y = .agg (arrv 3 (fun i => D (4 + i)))) (hz : ev z = .agg (arrv 3 (fun i => D (7 + i)))) :
  (execOp ev o).run Tryz.prog w = .ok (.value (.agg (arrv 10 D))) w := by
 unfold execOp
 simp only [ho, List.map_toArray, List.map_cons, List.map_nil, hx, hy, hz]
 kernel_rfl
set_option maxHeartbeats 4000000 in
theorem own26_any (D : Nat → Int) (w : World) : Calls Tryz.prog 14 #[.agg (arrv 10 D)] w fun e w' => e = .returned (.agg (arrv 10 D)) ∧ Below w.heap.size w w' := by
 have L0 := Lib.hid (show BsR [⟨w.heap.size + 1, 46, 10, fun _ => 0⟩, ⟨w.heap.size, 40, 10, D⟩] (w.heap.size + 1 + 1) w ((w.alloc (.cells (arrv 10 D) 40)).alloc (.cells #[.int .i64 0, .int .i64 0, .int .i64 0, .int .i64 0, .int .i64 0, .int .i64 0, .int .i64 0, .int .i64 0, .int .i64 0, .int .i64 0] 46)) by
  rw [zdr]
  have := ((bs_nil w).lay 40 10 D).lay 46 10 (fun _ => 0)
  simpa using this)
 go_enter Tryz.func14, Tryz.ntmps14
 go_upto_region 1 with fail
 generalize (w.alloc (.cells (arrv 10 D) 40)).alloc (.cells #[.int .i64 0, .int .i64 0, .int .i64 0, .int .i64 0, .int .i64 0, .int .i64 0, .int .i64 0, .int .i64 0, .int .i64 0, .int .i64 0] 46) = W0 at *
 have P0 := L0.out.e1
 refine wp_region_lit ?_
 refine tv ?_
 (try simp only [Act.put, nA, nB, nC])
 refine wpList_val (v := ?_) rfl ?_ ?_
 rotate_left
 ·(refine Eq.trans (run_load_sub 38 (.tmp 3) (by rfl) w.heap.size 0 4 (by rfl) P0 (by decide) _ Tryz.underlying38 rfl iqt) ?_; with_reducible rfl)
 (try simp only [Act.put, nA, nB, nC])
 refine tv ?_
 (try simp only [Act.put, nA, nB, nC])
 refine wpList_val (v := ?_) rfl ?_ ?_
 rotate_left
 ·(refine Eq.trans (run_load_sub 28 (.tmp 5) (by rfl) w.heap.size 4 3 (by rfl) P0 (by decide) _ Tryz.underlying28 rfl iv3) ?_; with_reducible rfl)
 (try simp only [Act.put, nA, nB, nC])
 refine tv ?_
 (try simp only [Act.put, nA, nB, nC])
 refine wpList_val (v := ?_) rfl ?_ ?_
 rotate_left
 ·(refine Eq.trans (run_load_sub 28 (.tmp 7) (by rfl) w.heap.size 7 3 (by rfl) P0 (by decide) _ Tryz.underlying28 rfl iv3) ?_; with_reducible rfl)
 (try simp only [Act.put, nA, nB, nC])
 refine wpList_val (v := ?_) rfl ?_ ?_
 rotate_left
 ·(refine Eq.trans (run_build_rd3 (D := D) (.tmp 4) (.tmp 6) (.tmp 8) (by rfl) (by rfl) (by rfl) (by rfl)) ?_; with_reducible rfl)
 (try simp only [Act.put, nA, nB, nC])
 refine wpList_done (w' := ?_) rfl ?_ ?_
 rotate_left
 ·(refine Eq.trans (run_store_row 46 (.tmp 2) (.tmp 9) (by rfl) (w.heap.size + 1) (by rfl) (by rfl) L0.out.e0 (irdl.trans rfl)) ?_; with_reducible rfl)
 (try simp only [Act.put, nA, nB, nC])
 refine wpList_nil ?_
 have L1 := Lib.hid (L0.out.row (by simp) D)
 generalize W0.setRow (w.heap.size + 1) (arrv 10 D) = W1 at *
 go_wp2_with fail
 refine bodyPost_ret (results_cell_row Tryz.results14 _ _ (w.heap.size + 1) 46 (arrv 10 _) (0, 0) _ rfl L1.out.e0 Tryz.underlying46 rfl (irdl.trans (by rw [arrv_size]))) rfl ⟨rfl, L1.out.below⟩
theorem run_equalIn_rd (d : Nat) (w : World) (f : Nat → Int) : (Op.equalIn (d + 3) 46 (.agg (arrv 10 f)) (.agg (arrv 10 f))).run Tryz.prog w = .ok true w := by
 have hf := fieldsOf_of Tryz.underlying46
 rw [show d + 3 = (d + 2) + 1 from rfl, run_equalIn_struct w (d + 2) _ _ _ (by rw [hf]; exact Tryz.underlying46) (by kernel_rfl), hf]
 have hi22 : ∃ i, Tryz.prog.info? 43 = some i ∧ i.size = 4 := by
  have h : (Tryz.prog.info? 43).map (·.size) = some 4 := by kernel_rfl
  cases e : Tryz.prog.info? 43 with
  | none => rw [e] at h; cases h
  | some i => rw [e] at h; exact ⟨i, rfl, by simpa using h⟩
 have hi23 : ∃ i, Tryz.prog.info? 44 = some i ∧ i.size = 3 := by
  have h : (Tryz.prog.info? 44).map (·.size) = some 3 := by kernel_rfl
  cases e : Tryz.prog.info? 44 with
  | none => rw [e] at h; cases h
  | some i => rw [e] at h; exact ⟨i, rfl, by simpa using h⟩
 have hi2 : ∃ i, Tryz.prog.info? 2 = some i ∧ i.size = 1 := by
  have h : (Tryz.prog.info? 2).map (·.size) = some 1 := by kernel_rfl
  cases e : Tryz.prog.info? 2 with
  | none => rw [e] at h; cases h
  | some i => rw [e] at h; exact ⟨i, rfl, by simpa using h⟩
 obtain ⟨i22, h22, s22⟩ := hi22
 obtain ⟨i23, h23, s23⟩ := hi23
 obtain ⟨i2, h2, s2⟩ := hi2
 have hc : Tryz.prog.cellsOf 2 = 1 := by simp [Program.cellsOf, h2, s2]
 have p0 := run_part_vec (w := w) (m := 10) Tryz.underlying43 h22 s22 0 f (by omega)
 have p1 := run_part_vec (w := w) (m := 10) Tryz.underlying44 h23 s23 4 f (by omega)
 have p2 := run_part_vec (w := w) (m := 10) Tryz.underlying44 h23 s23 7 f (by omega)
 have q0 := fun g => (run_equalIn_vec (w := w) d Tryz.underlying43 Tryz.underlying2 hc h2 g g).trans (by rw [eqB_iff.2 fun _ _ => rfl])
 have q1 := fun g => (run_equalIn_vec (w := w) d Tryz.underlying44 Tryz.underlying2 hc h2 g g).trans (by rw [eqB_iff.2 fun _ _ => rfl])
 have z : (Op.eqFields (d + 2) (arrv 10 f) (arrv 10 f) []).run Tryz.prog w = .ok true w := by simp [Op.eqFields]
 have e2 := run_eqFields_cons (f := ⟨"Pos", 44, 7, false, "", "", 56⟩) (by decide) p2 p2 (q1 _) z
 have e1 := run_eqFields_cons (f := ⟨"Vel", 44, 4, false, "", "", 32⟩) (by decide) p1 p1 (q1 _) e2
 have e0 := run_eqFields_cons (f := ⟨"Turn", 43, 0, false, "", "", 0⟩) (by decide) p0 p0 (q0 _) e1
 exact e0
/-- Two flags of the call's own, and a slice of jumps. -/
structure J26 (bc rc : Nat) (hb hr : Bool) (v : Value) (m : Nat) (L : Nat → Nat → Int) (w wr : World) : Prop where
 below : Below w.heap.size w wr
 c1 : wr.cell? ⟨bc, 0, none⟩ = some (.bool hb)
 f1 : wr.frozen? ⟨bc, 0, none⟩ = false
 c2 : wr.cell? ⟨rc, 0, none⟩ = some (.bool hr)
 f2 : wr.frozen? ⟨rc, 0, none⟩ = false
 ne : bc ≠ rc
 lb : w.heap.size ≤ bc
 lr : w.heap.size ≤ rc
 own : OwnO_B wr v m L
 lv : ∀ k, v.ownBlock = some k → w.heap.size ≤ k ∧ k ≠ bc ∧ k ≠ rc
section
variable {bc rc : Nat} {hb hr h' : Bool} {v v' : Value} {m m' : Nat} {L L' : Nat → Nat → Int} {w wr w' : World}
theorem J26.l1 (s : J26 bc rc hb hr v m L w wr) : bc < wr.heap.size := World.block_lt_of_cell? _ _ s.c1
theorem J26.l2 (s : J26 bc rc hb hr v m L w wr) : rc < wr.heap.size := World.block_lt_of_cell? _ _ s.c2
theorem J26.move (s : J26 bc rc hb hr v m L w wr) (b : Below w.heap.size w w') (e1 : w'.heap[bc]? = wr.heap[bc]?) (e2 : w'.heap[rc]? = wr.heap[rc]?) (o : OwnO_B w' v' m' L') (lv : ∀ k, v'.ownBlock = some k → w.heap.size ≤ k ∧ k ≠ bc ∧ k ≠ rc) : J26 bc rc hb hr v' m' L' w w' :=
 ⟨b, (World.cell?_of_block (a := ⟨bc, 0, none⟩) e1).trans s.c1, (World.frozen?_of_block (a := ⟨bc, 0, none⟩) e1).trans s.f1, (World.cell?_of_block (a := ⟨rc, 0, none⟩) e2).trans s.c2, (World.frozen?_of_block (a := ⟨rc, 0, none⟩) e2).trans s.f2, s.ne, s.lb, s.lr, o, lv⟩
theorem J26.down (s : J26 bc rc hb hr v m L w wr) (k : Below wr.heap.size wr w') : J26 bc rc hb hr v m L w w' :=
 s.move (s.below.trans (k.mono s.below.size)) (k.block _ s.l1) (k.block _ s.l2) (s.own.below k) s.lv
theorem J26.drew (s : J26 bc rc hb hr v m L w wr) : J26 bc rc hb hr v m L w wr.drew := s.down (Below.drew (Below.refl _ _))
theorem J26.grown (s : J26 bc rc hb hr v m L w wr) {r : Option Nat} (g : wr.grownBy w' r) (hr' : ∀ k, r = some k → w.heap.size ≤ k ∧ k ≠ bc ∧ k ≠ rc) (o : OwnO_B w' v' m' L') (lv : ∀ k, v'.ownBlock = some k → w.heap.size ≤ k ∧ k ≠ bc ∧ k ≠ rc) : J26 bc rc hb hr v' m' L' w w' :=
 s.move (below_grown s.below g (fun k hk => (hr' k hk).1) s.below.size) (g.block _ s.l1 fun e => (hr' _ e.symm).2.1 rfl) (g.block _ s.l2 fun e => (hr' _ e.symm).2.2 rfl) o lv
theorem J26.updB (s : J26 bc rc hb hr v m L w wr) (u : Upd ⟨bc, 0, none⟩ h' wr w') : J26 bc rc h' hr v m L w w' := by
 have e2 := u.block s.l2 (fun e => s.ne e.symm)
 refine ⟨own_upd s.below s.lb u, u.cellc s.c1, (u.frozen s.l1).trans s.f1, (World.cell?_of_block (a := ⟨rc, 0, none⟩) e2).trans s.c2, (World.frozen?_of_block (a := ⟨rc, 0, none⟩) e2).trans s.f2, s.ne, s.lb, s.lr, s.own.kept fun k hk e => u.block hk (fun h => (s.lv k e.symm).2.1 h), s.lv⟩
theorem J26.updR (s : J26 bc rc hb hr v m L w wr) (u : Upd ⟨rc, 0, none⟩ h' wr w') : J26 bc rc hb h' v m L w w' := by
 have e1 := u.block s.l1 (fun e => s.ne e)
 refine ⟨own_upd s.below s.lr u, (World.cell?_of_block (a := ⟨bc, 0, none⟩) e1).trans s.c1, (World.frozen?_of_block (a := ⟨bc, 0, none⟩) e1).trans s.f1, u.cellc s.c2, (u.frozen s.l2).trans s.f2, s.ne, s.lb, s.lr, s.own.kept fun k hk e => u.block hk (fun h => (s.lv k e.symm).2.2 h), s.lv⟩
end
section
variable {bc rc b g cap n : Nat} {hb hr h' : Bool} {v : Value} {m : Nat} {L LA : Nat → Nat → Int} {w wr w' : World}
end
end Go.Proofs.YtgfklheepkgedaaGreat
/- The reference's Velocity (printed by wip/gen_rjumps.py). -/
namespace Go.Proofs.YtgfklheepkgedaaGreat
open Go.RowKit
open Go
set_option maxRecDepth 100000
set_option maxHeartbeats 16000000 in
theorem rvel_any (c : Addr) (h : Bool) (S P : Nat → Int) (T : Nat → Int) (v : Int) (w : World) (hc : w.cell? c = some (.bool h)) (hf : w.frozen? c = false) :
  Calls Tryz.prog 9 #[.pointer (some c), .agg (arrv 24 S), .agg (arrv 300 P), .agg (arrv 3 T), .int .i64 v] w fun e w' =>
   e = .returned (.tuple #[.agg (arrv 24 (jpS S 4 T 3)), .agg (arrv 300 (stepF P (rtF 4 3) (rtQ 4 (fun _ => v) 3))), .agg (arrv 10 (midF dl0 4 3 (mvD (keepF S) 4 T)))]) ∧
   Upd c (jpH h S 4 T 3 || orB (rtB 4 (fun _ => v)) 3 || stepH P (rtF 4 3) (rtQ 4 (fun _ => v) 3)) w w' := by
 have L0 := Lib.hid (show LsR c h [⟨w.heap.size, 23, 24, S⟩, ⟨w.heap.size + 1, 26, 300, P⟩, ⟨w.heap.size + 1 + 1 + 1, 23, 24, fun _ => 0⟩, ⟨w.heap.size + 1 + 1 + 1 + 1, 26, 300, fun _ => 0⟩, ⟨w.heap.size + 1 + 1 + 1 + 1 + 1, 46, 10, fun _ => 0⟩, ⟨w.heap.size + 1 + 1, 44, 3, T⟩] (w.heap.size + 1 + 1 + 1 + 1 + 1 + 1) w ((((((w.alloc (.cells (arrv 24 S) 23)).alloc (.cells (arrv 300 P) 26)).alloc (.cells (arrv 3 T) 44)).alloc (.cells #[.int .i64 0, .int .i64 0, .int .i64 0, .int .i64 0, .int .i64 0, .int .i64 0, .int .i64 0, .int .i64 0, .int .i64 0, .int .i64 0, .int .i64 0, .int .i64 0, .int .i64 0, .int .i64 0, .int .i64 0, .int .i64 0, .int .i64 0, .int .i64 0, .int .i64 0, .int .i64 0, .int .i64 0, .int .i64 0, .int .i64 0, .int .i64 0] 23)).alloc (.cells Tryz.zeroCells26 26)).alloc (.cells #[.int .i64 0, .int .i64 0, .int .i64 0, .int .i64 0, .int .i64 0, .int .i64 0, .int .i64 0, .int .i64 0, .int .i64 0, .int .i64 0] 46)) by
  rw [zvec24, zcov, zdv]
  have := (((((((ls_nil hc hf).lay 23 24 S).lay 26 300 P).lay 44 3 T).lay 23 24 (fun _ => 0)).lay 26 300 (fun _ => 0)).lay 46 10 (fun _ => 0))
  simp at this
  exact this.sub (by simp))
 clear hc hf
 go_enter Tryz.func9, Tryz.ntmps9
 go_upto_region 1 with fail
 generalize (((((w.alloc (.cells (arrv 24 S) 23)).alloc (.cells (arrv 300 P) 26)).alloc (.cells (arrv 3 T) 44)).alloc (.cells #[.int .i64 0, .int .i64 0, .int .i64 0, .int .i64 0, .int .i64 0, .int .i64 0, .int .i64 0, .int .i64 0, .int .i64 0, .int .i64 0, .int .i64 0, .int .i64 0, .int .i64 0, .int .i64 0, .int .i64 0, .int .i64 0, .int .i64 0, .int .i64 0, .int .i64 0, .int .i64 0, .int .i64 0, .int .i64 0, .int .i64 0, .int .i64 0] 23)).alloc (.cells Tryz.zeroCells26 26)).alloc (.cells #[.int .i64 0, .int .i64 0, .int .i64 0, .int .i64 0, .int .i64 0, .int .i64 0, .int .i64 0, .int .i64 0, .int .i64 0, .int .i64 0] 46) = W0 at *
 refine wp_region_lit ?_
 refine wpList_step (fun K hK => ?_)
 go_simp
 (refine (rnothing_any _).mono ?_); rintro e w1 ⟨rfl, hb⟩; have L1 := Lib.hid (L0.out.down hb); clear hb L0
 (try dsimp only)
 (try simp only [Act.put, nA, nB, nC])
 refine hK _ _ ?_
 clear hK K
 refine wpList_act (v := ?_) (w' := ?_) rfl ?_ ?_
 rotate_left 2
 ·(go_simp; (try (first | with_reducible rfl | (constructor <;> with_reducible rfl))))
 (try simp only [Act.put, nA, nB, nC])
 refine wpList_done (w' := ?_) rfl ?_ ?_
 rotate_left
 ·(refine Eq.trans (run_store_row 46 (.tmp 13) (.tmp 15) (by rfl) (w1.heap.size) (by rfl) (by rfl) (show Blk (w1.alloc (.cells #[.int .i64 0, .int .i64 0, .int .i64 0, .int .i64 0, .int .i64 0, .int .i64 0, .int .i64 0, .int .i64 0, .int .i64 0, .int .i64 0] 46)) w1.heap.size 46 10 (fun _ => 0) by rw [zdv]; exact Blk.new _ _ _ _) (irdl.trans rfl)) ?_; with_reducible rfl)
 (try simp only [Act.put, nA, nB, nC])
 refine wpList_nil ?_
 have M0 := L1.out.put 46 10 (fun _ => 0) dl0
 rw [← zdv] at M0
 have M1 := Lib.hid M0
 clear M0
 obtain ⟨tb, htb⟩ : ∃ x, w1.heap.size = x := ⟨_, rfl⟩
 have ht0 := L1.out.le
 rw [htb] at M1 ht0 ⊢
 generalize (w1.alloc (.cells #[.int .i64 0, .int .i64 0, .int .i64 0, .int .i64 0, .int .i64 0, .int .i64 0, .int .i64 0, .int .i64 0, .int .i64 0, .int .i64 0] 46)).setRow tb (arrv 10 dl0) = W1 at *
 clear L1 htb
 obtain ⟨KE, hKE⟩ : ∃ x, keepF S = x := ⟨_, rfl⟩
 have NK := Lib.hid hKE
 have EM := Lib.hid (show jpS S 4 T 3 = keepF (mvS KE 4 T 3) ∧ jpH h S 4 T 3 = (h || keepH S || orB (mvB KE 4 T) 3 || keepH (mvS KE 4 T 3)) ∧ midF dl0 4 3 (mvD (keepF S) 4 T) = midF dl0 4 3 (mvD KE 4 T) by rw [← hKE]; exact ⟨rfl, rfl, rfl⟩)
 clear hKE
 have HS := Lib.hid ((M1.out.sub (E' := [⟨w.heap.size, 23, 24, S⟩, ⟨w.heap.size + 1, 26, 300, P⟩, ⟨w.heap.size + 1 + 1, 44, 3, T⟩, ⟨w.heap.size + 1 + 1 + 1, 23, 24, fun _ => 0⟩, ⟨w.heap.size + 1 + 1 + 1 + 1, 26, 300, fun _ => 0⟩, ⟨w.heap.size + 1 + 1 + 1 + 1 + 1, 46, 10, fun _ => 0⟩, ⟨tb, 46, 10, dl0⟩]) (by simp)).drew)
 clear M1
 go_upto_region 2 with fail
 (try simp only [Act.put])
 refine wp_region_M (fun w' => Blk w' w.heap.size 23 24 S ∧ Blk w' (w.heap.size + 1 + 1) 44 3 T) 9 (by kernel_rfl) ?_ (fun hHeld => ?_)
 ·exact ⟨HS.out.e0, HS.out.e2⟩
 refine tk 0 ?_
 (try simp only [Act.put, nA, nB, nC])
 refine tk 1 ?_
 (try simp only [Act.put, nA, nB, nC])
 refine tl 2 (v := ?_) ?_ ?_
 rotate_left
 ·(intro wx hSw; refine Eq.trans (run_load_row 23 (.tmp 6) (by rfl) (w.heap.size) (by rfl) _ _ _ _ (hSw.1) Tryz.underlying23 rfl (ist.trans (by rw [arrv_size]))) ?_; with_reducible rfl)
 (try simp only [Act.put, nA, nB, nC])
 refine tl 4 (v := ?_) ?_ ?_
 rotate_left
 ·(intro wx hSw; refine Eq.trans (run_slice_rv (.tmp 8) (by rfl) (w.heap.size + 1 + 1) 0 (by rfl)) ?_; with_reducible rfl)
 (try simp only [Act.put, nA, nB, nC])
 refine wpAnyM_oneS 3 rfl (by kernel_rfl) (fun K hK => ?_)
 go_simp
 (refine (rkeep16_any c h S _ HS.out.cell HS.out.free).mono ?_); (rw [NK.out]); rintro e w2 ⟨rfl, hu⟩; have HS2 := Lib.hid (HS.out.upd' hu); clear HS hu; have HS := HS2; clear HS2
 (try dsimp only)
 (try simp only [Act.put, nA, nB, nC])
 clear hHeld
 refine hK.out _ _ ?_ (fun hHeld => ?_)
 ·exact ⟨HS.out.e0, HS.out.e2⟩
 clear hK K
 (try simp only [Act.put, nA, nB, nC])
 refine wpAnyM_oneS 5 rfl (by kernel_rfl) (fun K hK => ?_)
 go_simp
 have RC := rjump_any c (h || keepH S) KE 4 _ 3 3 T w2 HS.out.cell HS.out.free (Slc.of_blk HS.out.e2) (by decide); (rw [show ((4 : Nat) : Int) = 4 from rfl] at RC); have hzz := HS.out.le; (refine RC.mono ?_); rintro e w3 ⟨v0, rfl, ho, hu⟩; obtain ⟨g0, cg0, rfl, hg1, hg2⟩ := tm_own ho (by decide); have HT := Lib.hid (show TmR g0 3 (mvD KE 4 T) w3 ∧ g0 ≠ w.heap.size ∧ g0 ≠ tb from ⟨hg2, by omega, by have := (HS.out.ex _ (.tail _ (.tail _ (.tail _ (.tail _ (.head _)))))).2.2; omega⟩); have HS2 := Lib.hid (HS.out.upd' hu); clear HS hu RC ho hg1 hg2 hzz; have HS := HS2; clear HS2
 (try dsimp only)
 (try simp only [Act.put, nA, nB, nC])
 clear hHeld
 refine hK.out _ _ ?_ (fun hHeld => ?_)
 ·exact ⟨HS.out.e0, HS.out.e2⟩
 clear hK K
 (try simp only [Act.put, nA, nB, nC])
 refine tk 6 ?_
 (try simp only [Act.put, nA, nB, nC])
 refine tk 7 ?_
 (try simp only [Act.put, nA, nB, nC])
 refine wpAnyM_takeW 8 (v := ?_) rfl (by kernel_rfl) (fun _ _ _ h => h) (Or.inl ⟨by rfl, ?_⟩) (.inr (by assumption)) ?_
 rotate_left
 ·(intro wx hSw; (try dsimp only at hSw); go_simp; (try with_reducible rfl))
 (try simp only [Act.put, nA, nB, nC])
 refine wpAnyM_doneL 9 rfl (by kernel_rfl) (by rfl) (by kernel_rfl) (run_store_row 23 (.tmp 6) (.tmp 23) rfl _ rfl rfl HS.out.e0 ist) ?_
 (try simp only [Act.put, nA, nB, nC])
 refine wpAnyM_takeW 10 (v := ?_) rfl (by kernel_rfl) (fun _ _ _ h => h) (Or.inl ⟨by rfl, ?_⟩) (.inl (by kernel_rfl)) ?_
 rotate_left
 ·(intro wx hSw; (try dsimp only at hSw); go_simp; (try with_reducible rfl))
 (try simp only [Act.put, nA, nB, nC])
 refine wpAnyM_done (by kernel_rfl) ?_ _

 have M2 := Lib.hid (HS.out.row (by simp; omega) (mvS KE 4 T 3))
 have T2 := Lib.hid (And.intro (HT.out.1.row w.heap.size (arrv 24 (mvS KE 4 T 3)) HT.out.2.1) HT.out.2.2)
 clear HS HT hHeld
 generalize w3.setRow w.heap.size (arrv 24 (mvS KE 4 T 3)) = W2 at *
 go_upto_region 3 with fail
 have HS := Lib.hid M2.out.drew
 have HT := Lib.hid (show TmR g0 3 (mvD KE 4 T) W2.drew from T2.out.1.below (Below.drew (Below.refl _ _)))
 clear M2 T2
 (try simp only [Act.put])
 refine wp_region_M (fun w' => w'.cell? ⟨g0, 0, none⟩ = some (.int .i64 (mvD KE 4 T 0)) ∧ w'.cell? ⟨g0, 1, none⟩ = some (.int .i64 (mvD KE 4 T 1)) ∧ w'.cell? ⟨g0, 2, none⟩ = some (.int .i64 (mvD KE 4 T 2))) 11 (by kernel_rfl) ?_ (fun hHeld => ?_)
 ·exact ⟨HT.out.2 0 (by decide), HT.out.2 1 (by decide), HT.out.2 2 (by decide)⟩
 refine tk 0 ?_
 (try simp only [Act.put, nA, nB, nC])
 refine tk 1 ?_
 (try simp only [Act.put, nA, nB, nC])
 refine tl 2 (v := ?_) ?_ ?_
 rotate_left
 ·(intro wx hSw; have t0 := hSw.1; go_simp; (try with_reducible rfl))
 (try simp only [Act.put, nA, nB, nC])
 refine tk 3 ?_
 (try simp only [Act.put, nA, nB, nC])
 refine tk 4 ?_
 (try simp only [Act.put, nA, nB, nC])
 refine tl 5 (v := ?_) ?_ ?_
 rotate_left
 ·(intro wx hSw; have t0 := hSw.2.1; go_simp; (try with_reducible rfl))
 (try simp only [Act.put, nA, nB, nC])
 refine tk 6 ?_
 (try simp only [Act.put, nA, nB, nC])
 refine tk 7 ?_
 (try simp only [Act.put, nA, nB, nC])
 refine tl 8 (v := ?_) ?_ ?_
 rotate_left
 ·(intro wx hSw; have t0 := hSw.2.2; go_simp; (try with_reducible rfl))
 (try simp only [Act.put, nA, nB, nC])
 refine tl 9 (v := ?_) ?_ ?_
 rotate_left
 ·(intro wx hSw; refine Eq.trans (run_build_rv3 (.tmp 27) (.tmp 30) (.tmp 33) (by rfl) (by rfl) (by rfl) (by rfl)) ?_; with_reducible rfl)
 (try simp only [Act.put, nA, nB, nC])
 refine tk 10 ?_
 (try simp only [Act.put, nA, nB, nC])
 refine wpAnyM_doneL 11 rfl (by kernel_rfl) (by rfl) (by kernel_rfl) (run_store_sub 44 (.tmp 35) (.tmp 34) rfl tb 4 rfl rfl HS.out.e6 (by decide) irv) ?_
 (try simp only [Act.put, nA, nB, nC])
 refine wpAnyM_done (by kernel_rfl) ?_ _
 have M3 := HS.out.sub (E' := [⟨w.heap.size + 1 + 1 + 1, 23, 24, fun _ => 0⟩, ⟨w.heap.size + 1 + 1 + 1 + 1, 26, 300, fun _ => 0⟩, ⟨w.heap.size + 1 + 1 + 1 + 1 + 1, 46, 10, fun _ => 0⟩, ⟨w.heap.size, 23, 24, mvS KE 4 T 3⟩, ⟨w.heap.size + 1, 26, 300, P⟩, ⟨tb, 46, 10, dl0⟩]) (by simp)
 clear HS HT hHeld
 rw [mid_v3 dl0 (mvD KE 4 T)]
 have M5 := Lib.hid (((M3.sub (E' := [⟨tb, 46, 10, dl0⟩, ⟨w.heap.size + 1 + 1 + 1, 23, 24, fun _ => 0⟩, ⟨w.heap.size + 1 + 1 + 1 + 1, 26, 300, fun _ => 0⟩, ⟨w.heap.size + 1 + 1 + 1 + 1 + 1, 46, 10, fun _ => 0⟩, ⟨w.heap.size, 23, 24, mvS KE 4 T 3⟩, ⟨w.heap.size + 1, 26, 300, P⟩]) (by simp)).row (by simp; omega) (midF dl0 4 3 (mvD KE 4 T))).sub (E' := [⟨w.heap.size + 1 + 1 + 1, 23, 24, fun _ => 0⟩, ⟨w.heap.size + 1 + 1 + 1 + 1, 26, 300, fun _ => 0⟩, ⟨w.heap.size + 1 + 1 + 1 + 1 + 1, 46, 10, fun _ => 0⟩, ⟨w.heap.size, 23, 24, mvS KE 4 T 3⟩, ⟨w.heap.size + 1, 26, 300, P⟩, ⟨tb, 46, 10, midF dl0 4 3 (mvD KE 4 T)⟩]) (by simp))
 clear M3
 generalize W2.drew.setRow tb (arrv 10 (midF dl0 4 3 (mvD KE 4 T))) = W3 at *
 obtain ⟨MS, hMS⟩ : ∃ x, mvS KE 4 T 3 = x := ⟨_, rfl⟩
 rw [hMS] at M5 EM
 clear hMS
 obtain ⟨H3, hH3⟩ : ∃ x, (h || keepH S || orB (mvB KE 4 T) 3) = x := ⟨_, rfl⟩
 rw [hH3] at M5 EM
 clear hH3
 obtain ⟨TD, hTD⟩ : ∃ x, midF dl0 4 3 (mvD KE 4 T) = x := ⟨_, rfl⟩
 rw [hTD] at M5 EM
 clear hTD
 obtain ⟨RV, hRV⟩ : ∃ x, stepF P (rtF 4 3) (rtQ 4 (fun _ => v) 3) = x := ⟨_, rfl⟩
 have NR := Lib.hid hRV
 obtain ⟨KM, hKM⟩ : ∃ x, keepF MS = x := ⟨_, rfl⟩
 have NM := Lib.hid hKM
 clear hRV hKM
 go_upto_region 4 with fail
 have HS := Lib.hid M5.out.drew
 clear M5
 (try simp only [Act.put])
 refine wp_region_M (fun w' => Blk w' (w.heap.size) 23 24 MS ∧ Blk w' (w.heap.size + 1) 26 300 P ∧ Blk w' tb 46 10 TD) 11 (by kernel_rfl) ?_ (fun hHeld => ?_)
 ·first | exact rk3 HS.out | exact rkR (rk3 HS.out) _ (by omega) (by omega) (by omega) | exact rkR (rkR (rk3 HS.out) _ (by omega) (by omega) (by omega)) _ (by omega) (by omega) (by omega)
 refine tk 0 ?_
 (try simp only [Act.put, nA, nB, nC])
 refine tl 1 (v := ?_) ?_ ?_
 rotate_left
 ·(intro wx hSw; refine Eq.trans (run_load_row 23 (.tmp 6) (by rfl) (w.heap.size) (by rfl) _ _ _ _ (hSw.1) Tryz.underlying23 rfl (ist.trans (by rw [arrv_size]))) ?_; with_reducible rfl)
 (try simp only [Act.put, nA, nB, nC])
 refine tk 3 ?_
 (try simp only [Act.put, nA, nB, nC])
 refine tl 4 (v := ?_) ?_ ?_
 rotate_left
 ·(intro wx hSw; refine Eq.trans (run_load_row 26 (.tmp 7) (by rfl) (w.heap.size + 1) (by rfl) _ _ _ _ (hSw.2.1) Tryz.underlying26 rfl (icov.trans (by rw [arrv_size]))) ?_; with_reducible rfl)
 (try simp only [Act.put, nA, nB, nC])
 refine tk 5 ?_
 (try simp only [Act.put, nA, nB, nC])
 refine tl 8 (v := ?_) ?_ ?_
 rotate_left
 ·(intro wx hSw; refine Eq.trans (run_load_row 46 (.tmp 13) (by rfl) tb (by rfl) _ _ _ _ hSw.2.2 Tryz.underlying46 rfl (irdl.trans (by rw [arrv_size]))) ?_; with_reducible rfl)
 (try simp only [Act.put, nA, nB, nC])
 refine wpAnyM_oneS 2 rfl (by kernel_rfl) (fun K hK => ?_)
 go_simp
 (refine (rkeep16_any c _ MS _ HS.out.cell HS.out.free).mono ?_); (rw [NM.out]); rintro e w6 ⟨rfl, hu⟩; (try (have HT2 := Lib.hid (And.intro (HT.out.1.upd hu HT.out.2) HT.out.2); clear HT; have HT := HT2; clear HT2)); have HS2 := Lib.hid (HS.out.upd' hu); clear HS hu; have HS := HS2; clear HS2
 (try dsimp only)
 (try simp only [Act.put, nA, nB, nC])
 clear hHeld
 refine hK.out _ _ ?_ (fun hHeld => ?_)
 ·first | exact rk3 HS.out | exact rkR (rk3 HS.out) _ (by omega) (by omega) (by omega) | exact rkR (rkR (rk3 HS.out) _ (by omega) (by omega) (by omega)) _ (by omega) (by omega) (by omega)
 clear hK K
 (try simp only [Act.put, nA, nB, nC])
 refine wpAnyM_oneS 6 rfl (by kernel_rfl) (fun K hK => ?_)
 go_simp
 (refine (rtimes_any v 3 _ (by decide)).mono ?_); rintro e w7 ⟨u, rfl, ho, hb⟩; have hzz := HS.out.le; have hyy := HS.out.lim; have hxx := HS.out.cb; obtain ⟨g, cg, rfl, hg1, hg2⟩ := tm_own ho (by decide); have HT := Lib.hid (And.intro hg2 (show g ≠ c.block by omega)); have HS2 := Lib.hid (HS.out.down hb); clear HS hb ho hg1 hg2 hzz hyy hxx; have HS := HS2; clear HS2
 (try dsimp only)
 (try simp only [Act.put, nA, nB, nC])
 clear hHeld
 refine hK.out _ _ ?_ (fun hHeld => ?_)
 ·first | exact rk3 HS.out | exact rkR (rk3 HS.out) _ (by omega) (by omega) (by omega) | exact rkR (rkR (rk3 HS.out) _ (by omega) (by omega) (by omega)) _ (by omega) (by omega) (by omega)
 clear hK K
 (try simp only [Act.put, nA, nB, nC])
 refine wpAnyM_oneS 7 rfl (by kernel_rfl) (fun K hK => ?_)
 go_simp
 (refine (rreset_any c _ P 4 _ 3 _ (fun _ => v) _ HS.out.cell HS.out.free HT.out.1.slc (by decide) (by decide)).mono ?_); (rw [NR.out]); rintro e w8 ⟨rfl, hu⟩; clear HT; have HS2 := Lib.hid (HS.out.upd' hu); clear HS hu; have HS := HS2; clear HS2
 (try dsimp only)
 (try simp only [Act.put, nA, nB, nC])
 clear hHeld
 refine hK.out _ _ ?_ (fun hHeld => ?_)
 ·first | exact rk3 HS.out | exact rkR (rk3 HS.out) _ (by omega) (by omega) (by omega) | exact rkR (rkR (rk3 HS.out) _ (by omega) (by omega) (by omega)) _ (by omega) (by omega) (by omega)
 clear hK K
 (try simp only [Act.put, nA, nB, nC])
 clear hHeld
 refine wpAnyM_doneN 9 rfl (by kernel_rfl) (by rfl) (run_store_row 23 (.tmp 10) (.tmp 38) rfl _ rfl rfl HS.out.e0 ist) ?_ (fun hHeld => ?_)
 ·first | exact rk3 HS.out | exact rkR (rk3 HS.out) _ (by omega) (by omega) (by omega) | exact rkR (rkR (rk3 HS.out) _ (by omega) (by omega) (by omega)) _ (by omega) (by omega) (by omega)
 (try simp only [Act.put, nA, nB, nC])
 clear hHeld
 refine wpAnyM_doneN 10 rfl (by kernel_rfl) (by rfl) (run_store_row 26 (.tmp 11) (.tmp 43) rfl _ rfl rfl (HS.out.e1.setRow_other _ (by omega)) icov) ?_ (fun hHeld => ?_)
 ·first | exact rk3 HS.out | exact rkR (rk3 HS.out) _ (by omega) (by omega) (by omega) | exact rkR (rkR (rk3 HS.out) _ (by omega) (by omega) (by omega)) _ (by omega) (by omega) (by omega)
 (try simp only [Act.put, nA, nB, nC])
 refine wpAnyM_doneL 11 rfl (by kernel_rfl) (by rfl) (by kernel_rfl) (run_store_row 46 (.tmp 12) (.tmp 44) rfl _ rfl rfl ((HS.out.e2.setRow_other _ (by omega)).setRow_other _ (by omega)) irdl) ?_
 (try simp only [Act.put, nA, nB, nC])
 refine wpAnyM_done (by kernel_rfl) ?_ _
 (have HR := Lib.hid (ls_row3 (F' := KM) (G' := RV) (K' := TD) HS.out (by omega) (by omega) (by omega)); go_wp2_with fail; refine bodyPost_ret_by (results_rows3 Tryz.results9 _ _ (w.heap.size + 1 + 1 + 1) (w.heap.size + 1 + 1 + 1 + 1) (w.heap.size + 1 + 1 + 1 + 1 + 1) 23 26 46 (arrv 24 KM) (arrv 300 RV) (arrv 10 TD) (0, 0) (0, 0) (0, 0) _ _ _ rfl HR.out.1 Tryz.underlying23 rfl (ist.trans (by rw [arrv_size])) rfl HR.out.2.1 Tryz.underlying26 rfl (icov.trans (by rw [arrv_size])) rfl HR.out.2.2.1 Tryz.underlying46 rfl (irdl.trans (by rw [arrv_size]))) rfl ⟨by rw [EM.out.1, EM.out.2.2, NM.out, NR.out], by rw [EM.out.2.1]; (first | exact HR.out.2.2.2 | (rw [rj_flag]; exact HR.out.2.2.2))⟩)
end Go.Proofs.YtgfklheepkgedaaGreat
/- The reference's Horizontal (printed by wip/gen_rjumps.py). -/
namespace Go.Proofs.YtgfklheepkgedaaGreat
open Go.RowKit
open Go
set_option maxRecDepth 100000
set_option maxHeartbeats 16000000 in
theorem rhor_any (c : Addr) (h : Bool) (S P : Nat → Int) (x0 x1 : Int) (v : Int) (w : World) (hc : w.cell? c = some (.bool h)) (hf : w.frozen? c = false) :
  Calls Tryz.prog 11 #[.pointer (some c), .agg (arrv 24 S), .agg (arrv 300 P), .int .i64 x0, .int .i64 x1, .int .i64 v] w fun e w' =>
   e = .returned (.tuple #[.agg (arrv 24 (jpS S 7 (two2 x0 x1) 2)), .agg (arrv 300 (stepF P (rtF 7 2) (rtQ 7 (fun _ => v) 2))), .agg (arrv 10 (midF dl0 7 2 (mvD (keepF S) 7 (two2 x0 x1))))]) ∧
   Upd c (jpH h S 7 (two2 x0 x1) 2 || orB (rtB 7 (fun _ => v)) 2 || stepH P (rtF 7 2) (rtQ 7 (fun _ => v) 2)) w w' := by
 have L0 := Lib.hid (show LsR c h [⟨w.heap.size, 23, 24, S⟩, ⟨w.heap.size + 1, 26, 300, P⟩, ⟨w.heap.size + 1 + 1, 23, 24, fun _ => 0⟩, ⟨w.heap.size + 1 + 1 + 1, 26, 300, fun _ => 0⟩, ⟨w.heap.size + 1 + 1 + 1 + 1, 46, 10, fun _ => 0⟩] (w.heap.size + 1 + 1 + 1 + 1 + 1) w (((((w.alloc (.cells (arrv 24 S) 23)).alloc (.cells (arrv 300 P) 26)).alloc (.cells #[.int .i64 0, .int .i64 0, .int .i64 0, .int .i64 0, .int .i64 0, .int .i64 0, .int .i64 0, .int .i64 0, .int .i64 0, .int .i64 0, .int .i64 0, .int .i64 0, .int .i64 0, .int .i64 0, .int .i64 0, .int .i64 0, .int .i64 0, .int .i64 0, .int .i64 0, .int .i64 0, .int .i64 0, .int .i64 0, .int .i64 0, .int .i64 0] 23)).alloc (.cells Tryz.zeroCells26 26)).alloc (.cells #[.int .i64 0, .int .i64 0, .int .i64 0, .int .i64 0, .int .i64 0, .int .i64 0, .int .i64 0, .int .i64 0, .int .i64 0, .int .i64 0] 46)) by
  rw [zvec24, zcov, zdv]
  have := ((((((ls_nil hc hf).lay 23 24 S).lay 26 300 P).lay 23 24 (fun _ => 0)).lay 26 300 (fun _ => 0)).lay 46 10 (fun _ => 0))
  simp at this
  exact this.sub (by simp))
 clear hc hf
 go_enter Tryz.func11, Tryz.ntmps11
 go_upto_region 1 with fail
 generalize ((((w.alloc (.cells (arrv 24 S) 23)).alloc (.cells (arrv 300 P) 26)).alloc (.cells #[.int .i64 0, .int .i64 0, .int .i64 0, .int .i64 0, .int .i64 0, .int .i64 0, .int .i64 0, .int .i64 0, .int .i64 0, .int .i64 0, .int .i64 0, .int .i64 0, .int .i64 0, .int .i64 0, .int .i64 0, .int .i64 0, .int .i64 0, .int .i64 0, .int .i64 0, .int .i64 0, .int .i64 0, .int .i64 0, .int .i64 0, .int .i64 0] 23)).alloc (.cells Tryz.zeroCells26 26)).alloc (.cells #[.int .i64 0, .int .i64 0, .int .i64 0, .int .i64 0, .int .i64 0, .int .i64 0, .int .i64 0, .int .i64 0, .int .i64 0, .int .i64 0] 46) = W0 at *
 refine wp_region_lit ?_
 refine wpList_step (fun K hK => ?_)
 go_simp
 (refine (rnothing_any _).mono ?_); rintro e w1 ⟨rfl, hb⟩; have L1 := Lib.hid (L0.out.down hb); clear hb L0
 (try dsimp only)
 (try simp only [Act.put, nA, nB, nC])
 refine hK _ _ ?_
 clear hK K
 refine wpList_act (v := ?_) (w' := ?_) rfl ?_ ?_
 rotate_left 2
 ·(go_simp; (try (first | with_reducible rfl | (constructor <;> with_reducible rfl))))
 (try simp only [Act.put, nA, nB, nC])
 refine wpList_done (w' := ?_) rfl ?_ ?_
 rotate_left
 ·(refine Eq.trans (run_store_row 46 (.tmp 15) (.tmp 17) (by rfl) (w1.heap.size) (by rfl) (by rfl) (show Blk (w1.alloc (.cells #[.int .i64 0, .int .i64 0, .int .i64 0, .int .i64 0, .int .i64 0, .int .i64 0, .int .i64 0, .int .i64 0, .int .i64 0, .int .i64 0] 46)) w1.heap.size 46 10 (fun _ => 0) by rw [zdv]; exact Blk.new _ _ _ _) (irdl.trans rfl)) ?_; with_reducible rfl)
 (try simp only [Act.put, nA, nB, nC])
 refine wpList_nil ?_
 have M0 := L1.out.put 46 10 (fun _ => 0) dl0
 rw [← zdv] at M0
 have M1 := Lib.hid M0
 clear M0
 obtain ⟨tb, htb⟩ : ∃ x, w1.heap.size = x := ⟨_, rfl⟩
 have ht0 := L1.out.le
 rw [htb] at M1 ht0 ⊢
 generalize (w1.alloc (.cells #[.int .i64 0, .int .i64 0, .int .i64 0, .int .i64 0, .int .i64 0, .int .i64 0, .int .i64 0, .int .i64 0, .int .i64 0, .int .i64 0] 46)).setRow tb (arrv 10 dl0) = W1 at *
 clear L1 htb
 obtain ⟨KE, hKE⟩ : ∃ x, keepF S = x := ⟨_, rfl⟩
 have NK := Lib.hid hKE
 have EM := Lib.hid (show jpS S 7 (two2 x0 x1) 2 = keepF (mvS KE 7 (two2 x0 x1) 2) ∧ jpH h S 7 (two2 x0 x1) 2 = (h || keepH S || orB (mvB KE 7 (two2 x0 x1)) 2 || keepH (mvS KE 7 (two2 x0 x1) 2)) ∧ midF dl0 7 2 (mvD (keepF S) 7 (two2 x0 x1)) = midF dl0 7 2 (mvD KE 7 (two2 x0 x1)) by rw [← hKE]; exact ⟨rfl, rfl, rfl⟩)
 clear hKE
 have HS := Lib.hid (M1.out.sub (E' := [⟨w.heap.size, 23, 24, S⟩, ⟨w.heap.size + 1, 26, 300, P⟩, ⟨w.heap.size + 1 + 1, 23, 24, fun _ => 0⟩, ⟨w.heap.size + 1 + 1 + 1, 26, 300, fun _ => 0⟩, ⟨w.heap.size + 1 + 1 + 1 + 1, 46, 10, fun _ => 0⟩, ⟨tb, 46, 10, dl0⟩]) (by simp))
 clear M1
 go_upto_region 2 with fail
 have P0 := HS.out.e0
 refine wp_region_lit ?_
 refine tv ?_
 (try simp only [Act.put, nA, nB, nC])
 refine tv ?_
 (try simp only [Act.put, nA, nB, nC])
 refine wpList_val (v := ?_) rfl ?_ ?_
 rotate_left
 ·refine Eq.trans (run_load_row 23 (.tmp 7) (by rfl) (w.heap.size) (by rfl) _ _ _ _ (P0) Tryz.underlying23 rfl (ist.trans (by rw [arrv_size]))) ?_; with_reducible rfl
 (try simp only [Act.put, nA, nB, nC])
 refine wpList_step (fun K hK => ?_)
 go_simp
 clear P0; (refine (rkeep16_any c h S _ HS.out.cell HS.out.free).mono ?_); (rw [NK.out]); rintro e w2 ⟨rfl, hu⟩; have HS2 := Lib.hid (HS.out.upd' hu); clear HS hu; have HS := HS2; clear HS2
 (try dsimp only)
 (try simp only [Act.put, nA, nB, nC])
 refine hK _ _ ?_
 clear hK K
 refine tv ?_
 (try simp only [Act.put, nA, nB, nC])
 refine tv ?_
 (try simp only [Act.put, nA, nB, nC])
 refine wpList_act (v := ?_) (w' := ?_) rfl ?_ ?_
 rotate_left 2
 ·(go_simp; (try (first | with_reducible rfl | (constructor <;> with_reducible rfl))))
 (try simp only [Act.put, nA, nB, nC])
 refine wpList_step (fun K hK => ?_)
 go_simp
 have HL := Lib.hid (slc_b2 w2 x0 x1); have HS2 := Lib.hid (HS.out.alloc (.cells #[.int .i64 x0, .int .i64 x1] 2)); clear HS; have HS := HS2; clear HS2; have RC := rjump_any c (h || keepH S) KE 7 _ 2 2 (two2 x0 x1) (w2.alloc (.cells #[.int .i64 x0, .int .i64 x1] 2)) HS.out.cell HS.out.free HL.out (by decide); (rw [show ((7 : Nat) : Int) = 7 from rfl] at RC); have hzz := HS.out.le; have hyy := (HS.out.ex _ (.tail _ (.tail _ (.tail _ (.tail _ (.tail _ (.head _))))))).2.2; (refine RC.mono ?_); rintro e w3 ⟨v0, rfl, ho, hu⟩; obtain ⟨g0, cg0, rfl, hg1, hg2⟩ := tm_own ho (by decide); have HT := Lib.hid (show TmR g0 2 (mvD KE 7 (two2 x0 x1)) w3 ∧ g0 ≠ w.heap.size ∧ g0 ≠ tb from ⟨hg2, by omega, by omega⟩); have HS2 := Lib.hid (HS.out.upd' hu); clear HS hu RC ho hg1 hg2 hzz hyy HL; have HS := HS2; clear HS2; have P1 := HS.out.e0
 (try dsimp only)
 (try simp only [Act.put, nA, nB, nC])
 refine hK _ _ ?_
 clear hK K
 refine tv ?_
 (try simp only [Act.put, nA, nB, nC])
 refine tv ?_
 (try simp only [Act.put, nA, nB, nC])
 refine tv ?_
 (try simp only [Act.put, nA, nB, nC])
 refine wpList_done (w' := ?_) rfl ?_ ?_
 rotate_left
 ·refine Eq.trans (run_store_row 23 (.tmp 7) (.tmp 27) (by rfl) (w.heap.size) (by rfl) (by rfl) (P1) (ist.trans rfl)) ?_; with_reducible rfl
 (try simp only [Act.put, nA, nB, nC])
 refine tv ?_
 (try simp only [Act.put, nA, nB, nC])
 refine wpList_nil ?_
 clear P1
 have M2 := Lib.hid (HS.out.row (by simp; omega) (mvS KE 7 (two2 x0 x1) 2))
 have T2 := Lib.hid (And.intro (HT.out.1.row w.heap.size (arrv 24 (mvS KE 7 (two2 x0 x1) 2)) HT.out.2.1) HT.out.2.2)
 clear HS HT
 generalize w3.setRow w.heap.size (arrv 24 (mvS KE 7 (two2 x0 x1) 2)) = W2 at *
 go_upto_region 3 with fail
 have HS := Lib.hid M2.out.drew
 have HT := Lib.hid (show TmR g0 2 (mvD KE 7 (two2 x0 x1)) W2.drew from T2.out.1.below (Below.drew (Below.refl _ _)))
 clear M2 T2
 (try simp only [Act.put])
 refine wp_region_M (fun w' => w'.cell? ⟨g0, 0, none⟩ = some (.int .i64 (mvD KE 7 (two2 x0 x1) 0)) ∧ w'.cell? ⟨g0, 1, none⟩ = some (.int .i64 (mvD KE 7 (two2 x0 x1) 1))) 8 (by kernel_rfl) ?_ (fun hHeld => ?_)
 ·exact ⟨HT.out.2 0 (by decide), HT.out.2 1 (by decide)⟩
 refine tk 0 ?_
 (try simp only [Act.put, nA, nB, nC])
 refine tk 1 ?_
 (try simp only [Act.put, nA, nB, nC])
 refine tl 2 (v := ?_) ?_ ?_
 rotate_left
 ·(intro wx hSw; have t0 := hSw.1; go_simp; (try with_reducible rfl))
 (try simp only [Act.put, nA, nB, nC])
 refine tk 3 ?_
 (try simp only [Act.put, nA, nB, nC])
 refine tk 4 ?_
 (try simp only [Act.put, nA, nB, nC])
 refine tl 5 (v := ?_) ?_ ?_
 rotate_left
 ·(intro wx hSw; have t0 := hSw.2; go_simp; (try with_reducible rfl))
 (try simp only [Act.put, nA, nB, nC])
 refine tl 6 (v := ?_) ?_ ?_
 rotate_left
 ·(intro wx hSw; refine Eq.trans (run_build_rv3 (.tmp 31) (.tmp 34) (.const (.int .i64 0)) (by rfl) (by rfl) (by rfl) (by rfl)) ?_; with_reducible rfl)
 (try simp only [Act.put, nA, nB, nC])
 refine tk 7 ?_
 (try simp only [Act.put, nA, nB, nC])
 refine wpAnyM_doneL 8 rfl (by kernel_rfl) (by rfl) (by kernel_rfl) (run_store_sub 44 (.tmp 36) (.tmp 35) rfl tb 7 rfl rfl HS.out.e5 (by decide) irv) ?_
 (try simp only [Act.put, nA, nB, nC])
 refine wpAnyM_done (by kernel_rfl) ?_ _
 clear hHeld
 generalize W2.drew = WX at *
 have M3 := HS.out.sub (E' := [⟨w.heap.size + 1 + 1, 23, 24, fun _ => 0⟩, ⟨w.heap.size + 1 + 1 + 1, 26, 300, fun _ => 0⟩, ⟨w.heap.size + 1 + 1 + 1 + 1, 46, 10, fun _ => 0⟩, ⟨w.heap.size, 23, 24, mvS KE 7 (two2 x0 x1) 2⟩, ⟨w.heap.size + 1, 26, 300, P⟩, ⟨tb, 46, 10, dl0⟩]) (by simp)
 clear HS HT
 rw [mid_h2 (mvD KE 7 (two2 x0 x1))]
 have M5 := Lib.hid (((M3.sub (E' := [⟨tb, 46, 10, dl0⟩, ⟨w.heap.size + 1 + 1, 23, 24, fun _ => 0⟩, ⟨w.heap.size + 1 + 1 + 1, 26, 300, fun _ => 0⟩, ⟨w.heap.size + 1 + 1 + 1 + 1, 46, 10, fun _ => 0⟩, ⟨w.heap.size, 23, 24, mvS KE 7 (two2 x0 x1) 2⟩, ⟨w.heap.size + 1, 26, 300, P⟩]) (by simp)).row (by simp; omega) (midF dl0 7 2 (mvD KE 7 (two2 x0 x1)))).sub (E' := [⟨w.heap.size + 1 + 1, 23, 24, fun _ => 0⟩, ⟨w.heap.size + 1 + 1 + 1, 26, 300, fun _ => 0⟩, ⟨w.heap.size + 1 + 1 + 1 + 1, 46, 10, fun _ => 0⟩, ⟨w.heap.size, 23, 24, mvS KE 7 (two2 x0 x1) 2⟩, ⟨w.heap.size + 1, 26, 300, P⟩, ⟨tb, 46, 10, midF dl0 7 2 (mvD KE 7 (two2 x0 x1))⟩]) (by simp))
 clear M3
 generalize WX.setRow tb (arrv 10 (midF dl0 7 2 (mvD KE 7 (two2 x0 x1)))) = W3 at *
 obtain ⟨MS, hMS⟩ : ∃ x, mvS KE 7 (two2 x0 x1) 2 = x := ⟨_, rfl⟩
 rw [hMS] at M5 EM
 clear hMS
 obtain ⟨H3, hH3⟩ : ∃ x, (h || keepH S || orB (mvB KE 7 (two2 x0 x1)) 2) = x := ⟨_, rfl⟩
 rw [hH3] at M5 EM
 clear hH3
 obtain ⟨TD, hTD⟩ : ∃ x, midF dl0 7 2 (mvD KE 7 (two2 x0 x1)) = x := ⟨_, rfl⟩
 rw [hTD] at M5 EM
 clear hTD
 obtain ⟨RV, hRV⟩ : ∃ x, stepF P (rtF 7 2) (rtQ 7 (fun _ => v) 2) = x := ⟨_, rfl⟩
 have NR := Lib.hid hRV
 obtain ⟨KM, hKM⟩ : ∃ x, keepF MS = x := ⟨_, rfl⟩
 have NM := Lib.hid hKM
 clear hRV hKM
 go_upto_region 4 with fail
 have HS := Lib.hid M5.out.drew
 clear M5
 (try simp only [Act.put])
 refine wp_region_M (fun w' => Blk w' (w.heap.size) 23 24 MS ∧ Blk w' (w.heap.size + 1) 26 300 P ∧ Blk w' tb 46 10 TD) 11 (by kernel_rfl) ?_ (fun hHeld => ?_)
 ·first | exact rk3 HS.out | exact rkR (rk3 HS.out) _ (by omega) (by omega) (by omega) | exact rkR (rkR (rk3 HS.out) _ (by omega) (by omega) (by omega)) _ (by omega) (by omega) (by omega)
 refine tk 0 ?_
 (try simp only [Act.put, nA, nB, nC])
 refine tl 1 (v := ?_) ?_ ?_
 rotate_left
 ·(intro wx hSw; refine Eq.trans (run_load_row 23 (.tmp 7) (by rfl) (w.heap.size) (by rfl) _ _ _ _ (hSw.1) Tryz.underlying23 rfl (ist.trans (by rw [arrv_size]))) ?_; with_reducible rfl)
 (try simp only [Act.put, nA, nB, nC])
 refine tk 3 ?_
 (try simp only [Act.put, nA, nB, nC])
 refine tl 4 (v := ?_) ?_ ?_
 rotate_left
 ·(intro wx hSw; refine Eq.trans (run_load_row 26 (.tmp 8) (by rfl) (w.heap.size + 1) (by rfl) _ _ _ _ (hSw.2.1) Tryz.underlying26 rfl (icov.trans (by rw [arrv_size]))) ?_; with_reducible rfl)
 (try simp only [Act.put, nA, nB, nC])
 refine tk 5 ?_
 (try simp only [Act.put, nA, nB, nC])
 refine tl 8 (v := ?_) ?_ ?_
 rotate_left
 ·(intro wx hSw; refine Eq.trans (run_load_row 46 (.tmp 15) (by rfl) tb (by rfl) _ _ _ _ hSw.2.2 Tryz.underlying46 rfl (irdl.trans (by rw [arrv_size]))) ?_; with_reducible rfl)
 (try simp only [Act.put, nA, nB, nC])
 refine wpAnyM_oneS 2 rfl (by kernel_rfl) (fun K hK => ?_)
 go_simp
 (refine (rkeep16_any c _ MS _ HS.out.cell HS.out.free).mono ?_); (rw [NM.out]); rintro e w6 ⟨rfl, hu⟩; (try (have HT2 := Lib.hid (And.intro (HT.out.1.upd hu HT.out.2) HT.out.2); clear HT; have HT := HT2; clear HT2)); have HS2 := Lib.hid (HS.out.upd' hu); clear HS hu; have HS := HS2; clear HS2
 (try dsimp only)
 (try simp only [Act.put, nA, nB, nC])
 clear hHeld
 refine hK.out _ _ ?_ (fun hHeld => ?_)
 ·first | exact rk3 HS.out | exact rkR (rk3 HS.out) _ (by omega) (by omega) (by omega) | exact rkR (rkR (rk3 HS.out) _ (by omega) (by omega) (by omega)) _ (by omega) (by omega) (by omega)
 clear hK K
 (try simp only [Act.put, nA, nB, nC])
 refine wpAnyM_oneS 6 rfl (by kernel_rfl) (fun K hK => ?_)
 go_simp
 (refine (rtimes_any v 2 _ (by decide)).mono ?_); rintro e w7 ⟨u, rfl, ho, hb⟩; have hzz := HS.out.le; have hyy := HS.out.lim; have hxx := HS.out.cb; obtain ⟨g, cg, rfl, hg1, hg2⟩ := tm_own ho (by decide); have HT := Lib.hid (And.intro hg2 (show g ≠ c.block by omega)); have HS2 := Lib.hid (HS.out.down hb); clear HS hb ho hg1 hg2 hzz hyy hxx; have HS := HS2; clear HS2
 (try dsimp only)
 (try simp only [Act.put, nA, nB, nC])
 clear hHeld
 refine hK.out _ _ ?_ (fun hHeld => ?_)
 ·first | exact rk3 HS.out | exact rkR (rk3 HS.out) _ (by omega) (by omega) (by omega) | exact rkR (rkR (rk3 HS.out) _ (by omega) (by omega) (by omega)) _ (by omega) (by omega) (by omega)
 clear hK K
 (try simp only [Act.put, nA, nB, nC])
 refine wpAnyM_oneS 7 rfl (by kernel_rfl) (fun K hK => ?_)
 go_simp
 (refine (rreset_any c _ P 7 _ 2 _ (fun _ => v) _ HS.out.cell HS.out.free HT.out.1.slc (by decide) (by decide)).mono ?_); (rw [NR.out]); rintro e w8 ⟨rfl, hu⟩; clear HT; have HS2 := Lib.hid (HS.out.upd' hu); clear HS hu; have HS := HS2; clear HS2
 (try dsimp only)
 (try simp only [Act.put, nA, nB, nC])
 clear hHeld
 refine hK.out _ _ ?_ (fun hHeld => ?_)
 ·first | exact rk3 HS.out | exact rkR (rk3 HS.out) _ (by omega) (by omega) (by omega) | exact rkR (rkR (rk3 HS.out) _ (by omega) (by omega) (by omega)) _ (by omega) (by omega) (by omega)
 clear hK K
 (try simp only [Act.put, nA, nB, nC])
 clear hHeld
 refine wpAnyM_doneN 9 rfl (by kernel_rfl) (by rfl) (run_store_row 23 (.tmp 12) (.tmp 39) rfl _ rfl rfl HS.out.e0 ist) ?_ (fun hHeld => ?_)
 ·first | exact rk3 HS.out | exact rkR (rk3 HS.out) _ (by omega) (by omega) (by omega) | exact rkR (rkR (rk3 HS.out) _ (by omega) (by omega) (by omega)) _ (by omega) (by omega) (by omega)
 (try simp only [Act.put, nA, nB, nC])
 clear hHeld
 refine wpAnyM_doneN 10 rfl (by kernel_rfl) (by rfl) (run_store_row 26 (.tmp 13) (.tmp 44) rfl _ rfl rfl (HS.out.e1.setRow_other _ (by omega)) icov) ?_ (fun hHeld => ?_)
 ·first | exact rk3 HS.out | exact rkR (rk3 HS.out) _ (by omega) (by omega) (by omega) | exact rkR (rkR (rk3 HS.out) _ (by omega) (by omega) (by omega)) _ (by omega) (by omega) (by omega)
 (try simp only [Act.put, nA, nB, nC])
 refine wpAnyM_doneL 11 rfl (by kernel_rfl) (by rfl) (by kernel_rfl) (run_store_row 46 (.tmp 14) (.tmp 45) rfl _ rfl rfl ((HS.out.e2.setRow_other _ (by omega)).setRow_other _ (by omega)) irdl) ?_
 (try simp only [Act.put, nA, nB, nC])
 refine wpAnyM_done (by kernel_rfl) ?_ _
 (have HR := Lib.hid (ls_row3 (F' := KM) (G' := RV) (K' := TD) HS.out (by omega) (by omega) (by omega)); go_wp2_with fail; refine bodyPost_ret_by (results_rows3 Tryz.results11 _ _ (w.heap.size + 1 + 1) (w.heap.size + 1 + 1 + 1) (w.heap.size + 1 + 1 + 1 + 1) 23 26 46 (arrv 24 KM) (arrv 300 RV) (arrv 10 TD) (0, 0) (0, 0) (0, 0) _ _ _ rfl HR.out.1 Tryz.underlying23 rfl (ist.trans (by rw [arrv_size])) rfl HR.out.2.1 Tryz.underlying26 rfl (icov.trans (by rw [arrv_size])) rfl HR.out.2.2.1 Tryz.underlying46 rfl (irdl.trans (by rw [arrv_size]))) rfl ⟨by rw [EM.out.1, EM.out.2.2, NM.out, NR.out], by rw [EM.out.2.1]; (first | exact HR.out.2.2.2 | (rw [rj_flag]; exact HR.out.2.2.2))⟩)
end Go.Proofs.YtgfklheepkgedaaGreat
