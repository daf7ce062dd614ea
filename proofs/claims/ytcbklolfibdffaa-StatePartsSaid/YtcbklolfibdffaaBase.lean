/- Small laws on worlds: a call that may set one flag cell and makes new blocks ('Upd'). Plain: no program. -/
import Derived.WalkKit
import Derived.WalkSpells
import Derived.WalkLawsBesides
import Derived.Below
import Derived.Lib.Hide
namespace Go.Proofs.Ytcbklolfibdffaa
open Go.RowKit

theorem setCell_self (w : World) (c : Addr) (v : Value) (h : w.cell? c = some v) : w.setCell c v = w := by
  have hb := World.block_lt_of_cell? w c h
  have hg : w.heap[c.block]? = some w.heap[c.block] := by simp [hb]
  unfold World.cell? at h
  rw [hg] at h
  have hh : (w.setCell c v).heap = w.heap := by
    apply Array.ext_getElem?
    intro i
    simp only [World.setCell, Array.getElem?_modify]
    by_cases hi : c.block = i
    · subst hi
      rw [if_pos rfl, hg]
      cases hx : w.heap[c.block] with
      | cells cc e f =>
        rw [hx] at h
        simp only at h
        by_cases hs : c.spot.isSome
        · simp [hs] at h
        · simp only [hs, if_false, Bool.false_eq_true] at h
          simp only [Option.map_some, hs, if_false, Bool.false_eq_true]
          congr 2
          apply Array.ext_getElem?
          intro j
          rw [Array.getElem?_setIfInBounds]
          by_cases hj : c.off = j
          · subst hj
            rw [if_pos rfl]
            split
            · exact h.symm
            · rename_i hlt
              rw [Array.getElem?_eq_none (by omega)] at h; cases h
          · rw [if_neg hj]
      | _ => rw [hx] at h; simp at h
    · rw [if_neg hi]
  show ({ w with heap := (w.setCell c v).heap } : World) = w
  rw [hh]

/-- The flag's cell holds h now; what was there is else as it was; there may be new blocks. -/
def Upd (c : Addr) (h : Bool) (w w' : World) : Prop := Below w.heap.size (w.setCell c (.bool h)) w'

theorem setCell_size (w : World) (c : Addr) (v : Value) : (w.setCell c v).heap.size = w.heap.size := by simp [World.setCell]

theorem Upd.size {c : Addr} {h : Bool} {w w' : World} (u : Upd c h w w') : w.heap.size ≤ w'.heap.size := by
  have := Below.size u; rwa [setCell_size] at this
theorem Upd.block {c : Addr} {h : Bool} {w w' : World} (u : Upd c h w w') {k : Nat} (hk : k < w.heap.size) (hn : k ≠ c.block) : w'.heap[k]? = w.heap[k]? := by
  rw [Below.block u k hk]; exact Below.heap_setCell w c _ k hn
theorem Upd.cellc {c : Addr} {h h0 : Bool} {w w' : World} (u : Upd c h w w') (hc : w.cell? c = some (.bool h0)) : w'.cell? c = some (.bool h) := by
  have hb := World.block_lt_of_cell? w c hc
  rw [Below.cell u hb]; exact World.cell?_setCell_same _ _ _ hc
theorem Upd.cell {c : Addr} {h : Bool} {w w' : World} (u : Upd c h w w') {a : Addr} (ha : a.block < w.heap.size) (hn : c ≠ a) : w'.cell? a = w.cell? a := by
  rw [Below.cell u ha]; exact World.cell?_setCell_other w c a _ hn
theorem Upd.frozen {c : Addr} {h : Bool} {w w' : World} (u : Upd c h w w') {a : Addr} (ha : a.block < w.heap.size) : w'.frozen? a = w.frozen? a := by
  rw [Below.frozen u ha]; exact World.frozen?_setCell ..
theorem Upd.refl {c : Addr} {h : Bool} {w : World} (hc : w.cell? c = some (.bool h)) : Upd c h w w := by
  unfold Upd; rw [setCell_self w c _ hc]; exact Below.refl _ _
theorem Upd.set (c : Addr) (h : Bool) (w : World) : Upd c h w (w.setCell c (.bool h)) := Below.refl _ _
/-- Behind a call that leaves what was there. -/
theorem Upd.then {c : Addr} {h : Bool} {w w1 w2 : World} (u : Upd c h w w1) (b : Below w1.heap.size w1 w2) : Upd c h w w2 :=
  Below.trans u (b.mono u.size)
theorem Upd.then' {c : Addr} {h : Bool} {w w1 w2 : World} (u : Upd c h w w1) (b : Below w.heap.size w1 w2) : Upd c h w w2 :=
  Below.trans u b
theorem below_setCell2 {B : Nat} {w w1 : World} (b : Below B w w1) (c : Addr) (v : Value) : Below B (w.setCell c v) (w1.setCell c v) := by
  refine ⟨b.os, b.tape, b.output, by simp [World.setCell]; exact b.size, fun k hk => ?_⟩
  simp only [World.setCell, Array.getElem?_modify]
  rw [b.block k hk]
theorem Upd.after {c : Addr} {h : Bool} {w w1 w2 : World} (b : Below w.heap.size w w1) (u : Upd c h w1 w2) : Upd c h w w2 := by
  have := below_setCell2 b c (.bool h)
  exact this.trans (Below.mono u b.size)
theorem setCell_setCell (w : World) (c : Addr) (v v' : Value) : (w.setCell c v).setCell c v' = w.setCell c v' := by
  unfold World.setCell
  congr 1
  apply Array.ext_getElem?
  intro i
  simp only [Array.getElem?_modify]
  by_cases hi : c.block = i
  · subst hi
    simp only [if_pos]
    cases w.heap[c.block]? with
    | none => rfl
    | some o =>
      cases o <;> simp only [Option.map_some]
      split <;> simp_all
  · simp [hi]
theorem Upd.trans {c : Addr} {h h' : Bool} {w w1 w2 : World} (u : Upd c h w w1) (u' : Upd c h' w1 w2) : Upd c h' w w2 := by
  have b := below_setCell2 u c (.bool h')
  rw [setCell_setCell] at b
  exact b.trans (Below.mono u' u.size)
theorem Upd.alloc {c : Addr} {h : Bool} {w w1 : World} (u : Upd c h w w1) (o : Obj) : Upd c h w (w1.alloc o) := u.then' ((Below.refl _ _).alloc u.size o)
theorem Upd.drew {c : Addr} {h : Bool} {w w1 : World} (u : Upd c h w w1) : Upd c h w w1.drew := Below.drew u
theorem Upd.setCell {c : Addr} {h : Bool} {w w1 : World} (u : Upd c h w w1) {p : Addr} (hp : w.heap.size ≤ p.block) (v : Value) : Upd c h w (w1.setCell p v) := u.then' ((Below.refl _ _).setCell hp v)
theorem bcell {W w1 : World} (hb : Below W.heap.size W w1) : (∀ b o, b < W.heap.size → w1.cell? ⟨b, o, none⟩ = W.cell? ⟨b, o, none⟩) ∧ (∀ b o, b < W.heap.size → w1.frozen? ⟨b, o, none⟩ = W.frozen? ⟨b, o, none⟩) :=
  ⟨fun b o h => hb.cell (p := ⟨b, o, none⟩) h, fun b o h => hb.frozen (p := ⟨b, o, none⟩) h⟩
theorem Below.after {w w1 w2 : World} (b : Below w.heap.size w w1) (b' : Below w1.heap.size w1 w2) : Below w.heap.size w w2 := b.trans (b'.mono b.size)
theorem retI {k : IntKind} {a b : Int} (h : a = b) : Ending.returned (.int k a) = .returned (.int k b) := by rw [h]
theorem retB {a b : Bool} (h : a = b) : Ending.returned (.bool a) = .returned (.bool b) := by rw [h]
end Go.Proofs.Ytcbklolfibdffaa
