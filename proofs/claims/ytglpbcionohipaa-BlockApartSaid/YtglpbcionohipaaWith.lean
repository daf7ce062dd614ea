/- Contract of thornton.With: Step with One and the noises given. -/
import Derived.Test.YtglpbcionohipaaNew
import Derived.Laws.CopyOwn
namespace Go.Proofs.Ytglpbcionohipaa
open Go.RowKit
set_option maxRecDepth 100000
open Go in
theorem run_load_row {P : Program} {o : Oper} {ev : Operand → Value} {w : World} (ty : TypeId) (x : Operand) (ho : o.op = .load ty x)
    (g : Nat) (hx : ev x = .pointer (some ⟨g, 0, none⟩)) (t : TypeId) (cs : Array Value) (fr : Nat × Nat) (d : TypeDesc) (hg : w.heap[g]? = some (.cells cs t fr))
    (hu : P.underlying ty = some d) (hd : (match d with | .struct _ | .array _ _ => true | _ => false) = true) (hi : (P.info? ty).map (·.size) = some cs.size) :
    (execOp ev o).run P w = .ok (.value (.agg cs)) w := by
  unfold execOp
  simp [ho, hx, Instr.loadAt, Instr.sureAddr, Sem.run_bind, run_loadVar_row (P := P) w g t ty cs fr d hg hu hd hi]
open Go in
theorem run_storeCells_row {P : Program} {w : World} {g T n : Nat} {f : Nat → Int} (F : Nat → Int) (h : Blk w g T n f) :
    (storeCells ⟨g, 0, none⟩ (arrv n F).toList).run P w = .ok () (w.setRow g (arrv n F)) := by
  have e := run_storeCells_at (P := P) g 0 T (arrv n F).toList 0 (arrv n f) w h (by simp [arrv_size]) (fun v hv => (Array.all_eq_true'.1 (oneCell_arrv n F)) v (by simpa using hv))
  rw [e]
  congr 2
  simp only [Nat.zero_add, Nat.add_zero, List.take_zero, List.nil_append, Array.length_toList, arrv_size]
  rw [List.drop_of_length_le (by simp [arrv_size]), List.append_nil, Array.toArray_toList]
theorem icol : (Try.prog.info? 27).map (·.size) = some 24 := by kernel_rfl
/-- The numbers copied into 24 noughts. -/
def copyF (n : Nat) (L : Nat → Int) : Nat → Int := fun i => if i < n then L i else 0
def copyL (n : Nat) (L : Nat → Int) : List Value := (List.range (min n 24)).map fun i => .int .i64 (L i)
theorem length_copyL (n : Nat) (L : Nat → Int) : (copyL n L).length = min n 24 := by simp [copyL]
theorem copyL_get {n : Nat} {L : Nat → Int} {j : Nat} {v : Value} (h : (copyL n L)[j]? = some v) : j < n ∧ v = .int .i64 (L j) := by
  simp only [copyL, List.getElem?_map, Option.map_eq_some_iff] at h
  obtain ⟨x, hx, rfl⟩ := h
  obtain ⟨h1, h2⟩ := List.getElem?_eq_some_iff.1 hx
  simp at h1 h2
  subst h2
  exact ⟨by omega, rfl⟩
theorem splice_copy (n : Nat) (L : Nat → Int) : (splice (arrv 24 (fun _ => 0)).toList 0 (copyL n L)).toArray = arrv 24 (copyF n L) := by
  apply Array.ext_getElem?
  intro i
  simp only [splice, List.take_zero, List.nil_append, Nat.zero_add, length_copyL, List.getElem?_toArray, List.getElem?_append, List.getElem?_drop, Array.getElem?_toList]
  by_cases hi : i < 24
  · rw [arrv_get (f := copyF n L) hi]
    split
    · rename_i h
      have : i < n := by omega
      simp [copyL, copyF, this, h]
    · rename_i h
      rw [show min n 24 + (i - min n 24) = i by omega, arrv_get hi]
      have : ¬ i < n := by omega
      simp [copyF, this]
  · rw [Array.getElem?_eq_none (xs := arrv 24 (copyF n L)) (by rw [arrv_size]; omega)]
    rw [if_neg (by omega), Array.getElem?_eq_none (by rw [arrv_size]; omega)]
end Go.Proofs.Ytglpbcionohipaa
