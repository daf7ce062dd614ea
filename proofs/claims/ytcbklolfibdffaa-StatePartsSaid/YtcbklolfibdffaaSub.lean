/- Part of a block of numbers, loaded or stored as a whole. -/
import Derived.Test.YtcbklolfibdffaaLdR
namespace Go.Proofs.Ytcbklolfibdffaa
open Go.RowKit
open Go in
theorem run_loadVar_sub {P : Program} {w : World} {g T N : Nat} {f : Nat → Int} (h : Blk w g T N f) (o n : Nat) (hon : o + n ≤ N) (ty : TypeId) (d : TypeDesc)
    (hu : P.underlying ty = some d) (hd : (match d with | .struct _ | .array _ _ => true | _ => false) = true) (hi : (P.info? ty).map (·.size) = some n) :
    (loadVar ty ⟨g, o, none⟩).run P w = .ok (.agg (arrv n (fun i => f (o + i)))) w := by
  have hl : (loadCells ⟨g, o, none⟩ (arrv n (fun i => f (o + i))).toList.length).run P w = .ok (arrv n (fun i => f (o + i))).toList.toArray w :=
    run_loadCells_list (P := P) w ⟨g, o, none⟩ (arrv n (fun i => f (o + i))).toList (fun j v hv => by
      have hadd : (⟨g, o, none⟩ : Addr).add j = ⟨g, o + j, none⟩ := by unfold Addr.add; split <;> simp_all
      have hv' : (arrv n (fun i => f (o + i)))[j]? = some v := by simpa using hv
      have hj : j < n := by
        rcases Nat.lt_or_ge j n with h' | h'
        · exact h'
        · rw [Array.getElem?_eq_none (by rw [arrv_size]; omega)] at hv'; cases hv'
      rw [arrv_get hj] at hv'
      rw [hadd, h.cell (by omega)]; exact hv')
  cases hq : P.info? ty with
  | none => simp [hq] at hi
  | some i =>
    have hs : i.size = n := by simpa [hq] using hi
    have hagg : (isAgg ty).run P w = .ok true w := by
      unfold isAgg
      rw [Sem.run_bind, run_underlying hu w]
      cases d <;> simp_all
    simp only [Array.length_toList, Array.toArray_toList, arrv_size] at hl
    simp [loadVar, Sem.run_bind, hagg, sizeOf, typeInfo, hq, hs, hl]
open Go in
theorem wp_load_sub {P : Program} {o' : Oper} {a : Act} {w : World} {K : Act → World → Prop} {Q : Exit → Act → World → Prop} (ty : TypeId) (x : Operand) (ho : o'.op = .load ty x)
    (g o n : Nat) (hx : a.eval x = .pointer (some ⟨g, o, none⟩)) {T N : Nat} {f : Nat → Int} (h : Blk w g T N f) (hon : o + n ≤ N) (d : TypeDesc)
    (hu : P.underlying ty = some d) (hd : (match d with | .struct _ | .array _ _ => true | _ => false) = true) (hi : (P.info? ty).map (·.size) = some n)
    (hK : K (a.put o'.dst (.agg (arrv n (fun i => f (o + i))))) w) : o'.wp P a w K Q := by
  unfold Oper.wp execOp
  simp only [ho, hx, Instr.loadAt, Instr.sureAddr, Sem.run_bind, Sem.run_pure, Result.andThen_ok, run_loadVar_sub h o n hon ty d hu hd hi]
  exact hK
open Go in
theorem wpList_load_sub {P : Program} {ops : Array Oper} {rest : List Oper} {o' : Oper} {a : Act} {w : World} {Q : Exit → Act → World → Prop} (hgd : o'.guard = none) (ty : TypeId) (x : Operand) (ho : o'.op = .load ty x)
    (g o n : Nat) (hx : a.eval x = .pointer (some ⟨g, o, none⟩)) {T N : Nat} {f : Nat → Int} (h : Blk w g T N f) (hon : o + n ≤ N) (d : TypeDesc)
    (hu : P.underlying ty = some d) (hd : (match d with | .struct _ | .array _ _ => true | _ => false) = true) (hi : (P.info? ty).map (·.size) = some n)
    (hK : wpList P ops Q rest (a.put o'.dst (.agg (arrv n (fun i => f (o + i))))) w) : wpList P ops Q (o' :: rest) a w :=
  wpList_plain hgd fun _ hk => wp_load_sub ty x ho g o n hx h hon d hu hd hi (hk _ _ hK)
/-- The same inside a region that draws its order. -/
theorem run_load_sub {P : Program} {o' : Oper} {ev : Operand → Value} {w : World} (ty : TypeId) (x : Operand) (ho : o'.op = .load ty x)
    (g o n : Nat) (hx : ev x = .pointer (some ⟨g, o, none⟩)) {T N : Nat} {f : Nat → Int} (h : Blk w g T N f) (hon : o + n ≤ N) (d : TypeDesc)
    (hu : P.underlying ty = some d) (hd : (match d with | .struct _ | .array _ _ => true | _ => false) = true) (hi : (P.info? ty).map (·.size) = some n) :
    (execOp ev o').run P w = .ok (.value (.agg (arrv n (fun i => f (o + i))))) w := by
  unfold execOp
  simp [ho, hx, Instr.loadAt, Instr.sureAddr, Sem.run_bind, run_loadVar_sub h o n hon ty d hu hd hi]
end Go.Proofs.Ytcbklolfibdffaa
