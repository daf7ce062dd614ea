/- A slice of one array of 24 numbers, built. -/
import Derived.Test.YtcbklolfibdffaaLdR
namespace Go.Proofs.Ytcbklolfibdffaa
open Go.RowKit
open Go
set_option maxRecDepth 100000
theorem fill24 (D : Nat → Int) (pl : Nat → Option (Nat × Nat)) (hp : pl 0 = some (0, 24)) (Z : Array Value) (hZ : Z = arrv 24 (fun _ => 0)) : Instr.fill pl Z [(0, .agg (arrv 24 D))] = some (arrv 24 D) := by
  subst hZ
  have h := fill_first pl 24 0 D hp
  rw [h]
  exact congrArg some (arrv_congr fun i hi => by rw [if_pos (by omega)])
theorem zrange24 (Z : Array Value) (hZ : Z = arrv 24 (fun _ => 0)) : (Array.range 24).map (fun i => Z[i % Z.size]!) = arrv 24 (fun _ => 0) := by
  subst hZ; kernel_rfl
theorem run_buildSlice24 (D : Nat → Int) (w : World) : (Instr.buildSlice 48 1 #[(0, .agg (arrv 24 D))]).run Try.prog w = .ok (.slice (some ⟨w.heap.size, 0, none⟩) 1 1) (w.alloc (.cells (arrv 24 D) 26)) := by
  have hz : (zeroValue 26).run Try.prog w = .ok (.agg (arrv 24 (fun _ => 0))) w := by kernel_rfl
  have hs : (sizeOf 26).run Try.prog w = .ok 24 w := by kernel_rfl
  unfold Instr.buildSlice
  simp only [Sem.run_bind, run_underlying Try.underlying48, Result.andThen_ok, hs, Nat.one_mul]
  rw [if_neg (by decide), if_neg (by decide)]
  have hf : Instr.fill (fun i => some (i * 24, 24)) (Array.map (fun x => (Value.agg (arrv 24 (fun _ => 0))).cells[x % (Value.agg (arrv 24 (fun _ => 0))).cells.size]!) (Array.range 24)) [(0, Value.agg (arrv 24 D))] = some (arrv 24 D) :=
    fill24 D _ rfl _ (zrange24 (arrv 24 (fun _ => 0)) rfl)
  simp only [Sem.run_bind, hz, Result.andThen_ok, Sem.run_pure, hf]
  simp [newRow, newObj, go_sem]
  rfl
/-- At the list of a plain region's operations. -/
theorem wpList_bsl24 {ops : Array Oper} {rest : List Oper} {o : Oper} {a : Act} {w : World} {Q : Exit → Act → World → Prop} {D : Nat → Int} (hgd : o.guard = none) (x : Operand) (ho : o.op = .buildSlice 48 1 #[(0, x)])
    (hx : a.eval x = .agg (arrv 24 D)) (h : wpList Try.prog ops Q rest (a.put o.dst (.slice (some ⟨w.heap.size, 0, none⟩) 1 1)) (w.alloc (.cells (arrv 24 D) 26))) : wpList Try.prog ops Q (o :: rest) a w :=
  wpList_plain hgd fun _ hK => by
    unfold Oper.wp execOp
    simp only [ho, Sem.run_bind, List.map_toArray, List.map_cons, List.map_nil, hx, run_buildSlice24 D w, Result.andThen_ok]
    exact hK _ _ h
end Go.Proofs.Ytcbklolfibdffaa
