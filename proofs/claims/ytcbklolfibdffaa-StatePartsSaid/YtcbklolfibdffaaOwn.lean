/- A slice of int64 that a call builds by append: what it owns. -/
import Derived.Test.YtcbklolfibdffaaArr
import Derived.Laws.AppendOwn
namespace Go.Proofs.Ytcbklolfibdffaa
open Go.RowKit
def ints (n : Nat) (L : Nat → Int) : List Value := (List.range n).map fun i => .int .i64 (L i)
theorem ints_length (n : Nat) (L : Nat → Int) : (ints n L).length = n := by simp [ints]
theorem ints_succ (n : Nat) (L : Nat → Int) : ints (n + 1) L = ints n L ++ [.int .i64 (L n)] := by simp [ints, List.range_succ]
theorem ints_get {n : Nat} {L : Nat → Int} {i : Nat} (h : i < n) : (ints n L)[i]? = some (.int .i64 (L i)) := by simp [ints, h]
theorem ints_congr {n : Nat} {L M : Nat → Int} (h : ∀ i, i < n → L i = M i) : ints n L = ints n M := by
  apply List.ext_getElem?
  intro i
  by_cases hi : i < n
  · rw [ints_get hi, ints_get hi, h i hi]
  · rw [List.getElem?_eq_none (by rw [ints_length]; omega), List.getElem?_eq_none (by rw [ints_length]; omega)]
/-- v is a slice of n numbers L in a block of its own, from block B on. -/
def Own (w : World) (B T : Nat) (v : Value) (n : Nat) (L : Nat → Int) : Prop := w.ownsRow B T 1 v n (ints n L)
theorem Own.nil (w : World) (B T : Nat) (L : Nat → Int) : Own w B T (.slice none 0 0) 0 L := World.ownsRow_nil w B T 1
theorem Own.congr {w : World} {B T : Nat} {v : Value} {n : Nat} {L M : Nat → Int} (h : Own w B T v n L) (e : ∀ i, i < n → L i = M i) : Own w B T v n M := by
  unfold Own at *; rwa [← ints_congr e]
theorem Own.kept {w w' : World} {B T : Nat} {v : Value} {n : Nat} {L : Nat → Int} (h : Own w B T v n L) (hs : ∀ k, B ≤ k → k < w.heap.size → some k = v.ownBlock → w'.heap[k]? = w.heap[k]?) : Own w' B T v n L := by
  refine ⟨h.1, ?_⟩
  rcases h.2 with hn | ⟨g, cap, cur, rfl, hb, hgg, rest⟩
  · exact .inl hn
  · refine .inr ⟨g, cap, cur, rfl, hb, ?_, rest⟩
    rw [hs g hb (Array.getElem?_eq_some_iff.1 hgg).1 rfl]
    exact hgg
theorem Own.below {w w' : World} {B T : Nat} {v : Value} {n : Nat} {L : Nat → Int} (h : Own w B T v n L) (b : Below w.heap.size w w') : Own w' B T v n L := h.kept fun k _ hk _ => b.block k hk
theorem Own.drew {w : World} {B T : Nat} {v : Value} {n : Nat} {L : Nat → Int} (h : Own w B T v n L) : Own w.drew B T v n L := h
theorem Own.alloc {w : World} {B T : Nat} {v : Value} {n : Nat} {L : Nat → Int} (h : Own w B T v n L) (o : Obj) : Own (w.alloc o) B T v n L := h.below ((Below.refl _ _).alloc (Nat.le_refl _) o)
theorem Own.upd {w w' : World} {B T : Nat} {v : Value} {n : Nat} {L : Nat → Int} (h : Own w B T v n L) {c : Addr} {f : Bool} (u : Upd c f w w') (hc : c.block < B) : Own w' B T v n L := h.kept fun k hB hk _ => u.block hk (by omega)
theorem Own.grown {w w' : World} {B T : Nat} {v : Value} {n : Nat} {L : Nat → Int} (h : Own w B T v n L) {r : Option Nat} (g : w.grownBy w' r) (hn : ∀ k, v.ownBlock = some k → r ≠ some k) : Own w' B T v n L :=
  h.kept fun k _ hk e => g.block k hk (fun e2 => hn k e.symm e2.symm)
theorem Own.raise {w : World} {B B' T : Nat} {v : Value} {n : Nat} {L : Nat → Int} (h : Own w B T v n L) (hb : B' ≤ B) : Own w B' T v n L := by
  refine ⟨h.1, ?_⟩
  rcases h.2 with hn | ⟨g, cap, cur, rfl, hb2, hgg, rest⟩
  · exact .inl hn
  · exact .inr ⟨g, cap, cur, rfl, by omega, hgg, rest⟩
theorem Own.other {w : World} {B T : Nat} {v : Value} {n : Nat} {L : Nat → Int} (h : Own w B T v n L) {a : Addr} (ha : v.ownBlock ≠ some a.block) (x : Value) : Own (w.setCell a x) B T v n L :=
  h.kept fun k _ _ e => heap_setCell_other w a k x (fun e2 => ha (by rw [← e, e2]))
/-- As a slice: its numbers. -/
theorem Own.slc {w : World} {B T : Nat} {v : Value} {n : Nat} {L : Nat → Int} (h : Own w B T v n L) (hn : 0 < n) :
    ∃ g cp, v = .slice (some ⟨g, 0, none⟩) n cp ∧ B ≤ g ∧ g < w.heap.size ∧ ∀ i, i < n → w.cell? ⟨g, 0 + i, none⟩ = some (.int .i64 (L i)) := by
  rcases h.2 with ⟨_, h0⟩ | ⟨g, cap, cur, rfl, hb, hgg, h1, h2, h3, h4⟩
  · omega
  · refine ⟨g, cap, rfl, hb, (Array.getElem?_eq_some_iff.1 hgg).1, fun i hi => ?_⟩
    rw [Nat.zero_add, cell_of_row w g i cur T (0, 0) hgg]
    have := ints_get (L := L) hi
    rw [← h4, List.getElem?_take] at this
    split at this
    · simpa using this
    · cases this
/-- Whatever is behind an append: below the first own block nothing has turned. -/
theorem below_grown {B : Nat} {w0 w w' : World} {r : Option Nat} (b : Below B w0 w) (g : w.grownBy w' r) (hr : ∀ k, r = some k → B ≤ k) (hB : B ≤ w.heap.size) : Below B w0 w' :=
  b.trans ⟨g.os, g.tape, g.output, g.size, fun k hk => by
    exact g.block k (by omega) (fun e => by have := hr k e.symm; omega)⟩
end Go.Proofs.Ytcbklolfibdffaa
