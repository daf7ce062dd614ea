/- A whole row of numbers loaded or stored, inside a region that draws its order. -/
import Derived.Test.YtcbklolfibdffaaArr
import Derived.Laws.CopyOwn
namespace Go.Proofs.Ytcbklolfibdffaa
open Go.RowKit
set_option maxRecDepth 100000
open Go in
theorem run_load_row {P : Program} {o : Oper} {ev : Operand → Value} {w : World} (ty : TypeId) (x : Operand) (ho : o.op = .load ty x)
    (g : Nat) (hx : ev x = .pointer (some ⟨g, 0, none⟩)) (t : TypeId) (cs : Array Value) (fr : Nat × Nat) (d : TypeDesc) (hg : w.heap[g]? = some (.cells cs t fr))
    (hu : P.underlying ty = some d) (hd : (match d with | .struct _ | .array _ _ => true | _ => false) = true) (hi : (P.info? ty).map (·.size) = some cs.size) :
    (execOp ev o).run P w = .ok (.value (.agg cs)) w := by
  unfold execOp
  simp [ho, hx, Instr.loadAt, Instr.sureAddr, Sem.run_bind, run_loadVar_row (P := P) w g t ty cs fr d hg hu hd hi]
open Go in
theorem run_storeCells_row {P : Program} {w : World} {g T n : Nat} {f : Nat → Int} (F : Nat → Int) (h : Blk w g T n f) :
    (storeCells ⟨g, 0, none⟩ (arrv n F).toList).run P w = .ok () (w.setRow g (arrv n F)) := by
  have e := run_storeCells_at (P := P) g 0 T (arrv n F).toList 0 (arrv n f) w h (by simp [arrv_size]) (fun v hv => (Array.all_eq_true'.1 (oneCell_arrv n F)) v (by simpa using hv))
  rw [e]
  congr 2
  simp only [Nat.zero_add, Nat.add_zero, List.take_zero, List.nil_append, Array.length_toList, arrv_size]
  rw [List.drop_of_length_le (by simp [arrv_size]), List.append_nil, Array.toArray_toList]
theorem icol : (Try.prog.info? 26).map (·.size) = some 24 := by kernel_rfl
/-- A slice of int64: n numbers from a pointer, or none. -/
def Slc (w : World) (p : Option Addr) (n : Nat) (L : Nat → Int) : Prop := ∀ i, i < n → ∃ b o, p = some ⟨b, o, none⟩ ∧ w.cell? ⟨b, o + i, none⟩ = some (.int .i64 (L i))
theorem Slc.below {w w' : World} {p : Option Addr} {n : Nat} {L : Nat → Int} (h : Slc w p n L) (b : Below w.heap.size w w') : Slc w' p n L := fun i hi => by
  obtain ⟨k, o, rfl, hc⟩ := h i hi
  exact ⟨k, o, rfl, (b.cell (World.block_lt_of_cell? _ _ hc)).trans hc⟩
section
open Go
theorem foldl_set (l : List Value) : ∀ (k : Nat) (cs : Array Value), k + l.length ≤ cs.size → ∀ i,
    ((l.zipIdx k).foldl (fun (cs : Array Value) (x : Value × Nat) => cs.setIfInBounds (0 + x.2) x.1) cs)[i]? = if k ≤ i ∧ i < k + l.length then l[i - k]? else cs[i]? := by
  induction l with
  | nil => intro k cs _ i; simp; intro h; omega
  | cons v l ih =>
    intro k cs h i
    simp only [List.zipIdx_cons, List.foldl_cons, List.length_cons] at h ⊢
    rw [ih (k + 1) _ (by simp; omega) i]
    by_cases h1 : k + 1 ≤ i ∧ i < k + 1 + l.length
    · rw [if_pos h1, if_pos (by omega), show i - k = (i - (k + 1)) + 1 by omega, List.getElem?_cons_succ]
    · rw [if_neg h1]
      by_cases h2 : i = k
      · subst h2
        rw [if_pos (by omega), Nat.sub_self, Nat.zero_add]
        simp [show i < cs.size by omega]
      · rw [if_neg (by omega), Nat.zero_add, Array.getElem?_setIfInBounds, if_neg (by omega)]
theorem fill_one (pl : Nat → Option (Nat × Nat)) (cs V : Array Value) (n : Nat) (hn : V.size = n) (hp : pl 0 = some (0, n)) (hs : V.size ≤ cs.size) :
    Instr.fill pl cs [(0, .agg V)] = some (V.toList.zipIdx.foldl (fun (cs : Array Value) (x : Value × Nat) => cs.setIfInBounds (0 + x.2) x.1) cs) := by
  have hc : (Value.agg V).cells = V := rfl
  unfold Instr.fill
  simp only [hp, hc]
  rw [if_neg (by simp [hn]; omega)]
  unfold Instr.fill
  rw [← Array.foldl_toList, Array.toList_zipIdx]
theorem fill_first (pl : Nat → Option (Nat × Nat)) (n m : Nat) (f : Nat → Int) (hp : pl 0 = some (0, n)) :
    Instr.fill pl (arrv (n + m) (fun _ => 0)) [(0, .agg (arrv n f))] = some (arrv (n + m) (fun x => if x < n then f x else 0)) := by
  rw [fill_one pl _ (arrv n f) n (arrv_size ..) hp (by rw [arrv_size, arrv_size]; omega)]
  apply congrArg some
  apply Array.ext_getElem?
  intro i
  refine Eq.trans (foldl_set (arrv n f).toList 0 (arrv (n + m) (fun _ => 0)) (by simp [arrv_size]) i) ?_
  simp only [Array.length_toList, arrv_size, Nat.zero_le, true_and, Nat.zero_add, Nat.sub_zero, Array.getElem?_toList]
  by_cases h3 : i < n
  · rw [if_pos h3, arrv_get h3, arrv_get (by omega), if_pos h3]
  · rw [if_neg h3]
    by_cases h4 : i < n + m
    · rw [arrv_get h4, arrv_get h4, if_neg h3]
    · rw [Array.getElem?_eq_none (by rw [arrv_size]; omega), Array.getElem?_eq_none (by rw [arrv_size]; omega)]
end
end Go.Proofs.Ytcbklolfibdffaa
