/- Contracts of the program's functions and plain laws, part 17: they hold for all arguments. -/
import Derived.Test.YtanmddenleffaaaQ13
import Derived.Test.YtanmddenleffaaaQ14
import Derived.Test.YtanmddenleffaaaQ10
import Derived.Test.YtanmddenleffaaaQ07
import Derived.Test.YtanmddenleffaaaQ09
/- Slices of two or three vectors, built; a vector built out of its last number. -/
namespace Go.Proofs.Ytanmddenleffaaa
open Go.RowKit
open Go
set_option maxRecDepth 100000
end Go.Proofs.Ytanmddenleffaaa
/- strap.Step's numbers and blocks. -/
namespace Go.Proofs.Ytanmddenleffaaa
open Go.RowKit
set_option maxRecDepth 100000
/-- Further blocks. -/
structure Ex where
  b : Nat
  T : Nat
  n : Nat
  F : Nat → Int
/-- The blocks of strap.Step. -/
structure TsR (c : Addr) (h : Bool) (S I : Nat → Int) (E : List Ex) (top : Nat) (w wr : World) : Prop where
  upd : Upd c h w wr
  s : Blk wr w.heap.size 30 24 S
  i : Blk wr (w.heap.size + 1) 33 8 I
  r : Blk wr (w.heap.size + 1 + 1) 30 24 (fun _ => 0)
  cell : wr.cell? c = some (.bool h)
  free : wr.frozen? c = false
  cb : c.block < w.heap.size
  ex : ∀ e, e ∈ E → Blk wr e.b e.T e.n e.F ∧ w.heap.size + 1 + 1 < e.b ∧ e.b < top
  lim : w.heap.size + 1 + 1 < top
  le : top ≤ wr.heap.size
section
variable {c : Addr} {h h' : Bool} {S I : Nat → Int} {E : List Ex} {top : Nat} {w wr w' : World}
theorem TsR.upd' (s : TsR c h S I E top w wr) (u : Upd c h' wr w') : TsR c h' S I E top w w' := by
  have hcb := s.cb
  have hl := s.lim
  exact ⟨s.upd.trans u, s.s.upd u (by omega), s.i.upd u (by omega), s.r.upd u (by omega), u.cellc s.cell, (u.frozen (World.block_lt_of_cell? _ _ s.cell)).trans s.free, s.cb, fun e he => ⟨(s.ex e he).1.upd u (by have := (s.ex e he).2.1; omega), (s.ex e he).2⟩, s.lim, Nat.le_trans s.le u.size⟩
theorem TsR.low (s : TsR c h S I E top w wr) (u : Below top wr w') (hz : top ≤ w'.heap.size) : TsR c h S I E top w w' := by
  have hcb := s.cb
  have hl := s.lim
  have hle := s.le
  exact ⟨s.upd.then' (u.mono (by omega)), (u.block _ (by omega)).trans s.s, (u.block _ (by omega)).trans s.i, (u.block _ (by omega)).trans s.r, (u.cell (by omega)).trans s.cell, (u.frozen (by omega)).trans s.free, s.cb, fun e he => ⟨(u.block _ (s.ex e he).2.2).trans (s.ex e he).1, (s.ex e he).2⟩, s.lim, hz⟩
theorem TsR.down (s : TsR c h S I E top w wr) (u : Below wr.heap.size wr w') : TsR c h S I E top w w' := s.low (u.mono s.le) (Nat.le_trans s.le u.size)
theorem TsR.drew (s : TsR c h S I E top w wr) : TsR c h S I E top w wr.drew := s.down (Below.drew (Below.refl _ _))
theorem TsR.alloc (s : TsR c h S I E top w wr) (o : Obj) : TsR c h S I E top w (wr.alloc o) := s.down ((Below.refl _ _).alloc (Nat.le_refl _) o)
theorem TsR.rowS (s : TsR c h S I E top w wr) (F : Nat → Int) : TsR c h F I E top w (wr.setRow w.heap.size (arrv 24 F)) := by
  have hcb := s.cb
  exact ⟨s.upd.then' (below_row (Below.refl _ _) (by omega) _), s.s.setRow F, s.i.setRow_other _ (by omega), s.r.setRow_other _ (by omega), by rw [(cell_row_other _ (by omega)).1]; exact s.cell, by rw [(cell_row_other _ (by omega)).2]; exact s.free, s.cb, fun e he => ⟨(s.ex e he).1.setRow_other _ (by have := (s.ex e he).2.1; omega), (s.ex e he).2⟩, s.lim, by rw [setRow_size]; exact s.le⟩
/-- A row stored into a block above. -/
theorem TsR.put (s : TsR c h S I E top w wr) {b T n : Nat} {f : Nat → Int} (hb : Blk wr b T n f) (ht : top ≤ b) (F : Nat → Int) : TsR c h S I (⟨b, T, n, F⟩ :: E) (b + 1) w (wr.setRow b (arrv n F)) := by
  have hl := s.lim
  have k := s.low (below_row (Below.refl top wr) ht (arrv n F)) (by rw [setRow_size]; exact s.le)
  refine ⟨k.upd, k.s, k.i, k.r, k.cell, k.free, k.cb, fun e he => ?_, by omega, by rw [setRow_size]; have := hb.lt; omega⟩
  rcases List.mem_cons.1 he with rfl | he
  · exact ⟨hb.setRow F, by simp only; omega, by simp⟩
  · have := k.ex e he
    exact ⟨this.1, this.2.1, by omega⟩
end
end Go.Proofs.Ytanmddenleffaaa
/- Plain laws of Keep. -/
namespace Go.Proofs.Ytanmddenleffaaa
theorem unitQ_congr {A B : Nat → Int} (h : ∀ i, i < 4 → A i = B i) (u : UnitQ A) : UnitQ B := by
  refine ⟨fun i hi => by rw [← h i hi]; exact u.1 i hi, ?_, ?_⟩
  · rw [← h 0 (by decide), ← h 1 (by decide), ← h 2 (by decide), ← h 3 (by decide)]; exact u.2.1
  · rw [← h 0 (by decide), ← h 1 (by decide), ← h 2 (by decide), ← h 3 (by decide)]; exact u.2.2
theorem clmF_lo (X : Nat → Int) {i : Nat} (h : i < 4) : clmF X i = X i := by unfold clmF; rw [if_pos h]
theorem clampV_box (x M : Int) (hM : 0 ≤ M) : -M ≤ clampV x (-M) M ∧ clampV x (-M) M ≤ M := by
  unfold clampV; rw [if_neg (by omega)]; split
  · omega
  · split <;> omega
theorem boxF_lo {i : Nat} (h : i < 4) : boxF i = 1073741840 := by unfold boxF; rw [if_pos h]
/-- What is clamped, of a Unit's quaternion, is good. -/
theorem clm_good (X : Nat → Int) (u : UnitQ X) : goodB (clmF X) = true := by
  unfold goodB
  rw [Bool.and_eq_true]
  refine ⟨boxQ_iff.2 fun i hi => ?_, (unitB_iff _).2 (unitQ_congr (fun i hi => (clmF_lo X hi).symm) u)⟩
  by_cases h : i < 4
  · rw [clmF_lo X h, boxF_lo h]; exact u.1 i h
  · unfold clmF; rw [if_neg h]; exact clampV_box _ _ (by have := boxF_bd i; omega)
theorem turnd_unit (S Q : Nat → Int) (u : UnitQ Q) : UnitQ (turnd S Q) := unitQ_congr (fun i hi => by unfold turnd; rw [if_pos hi]) u
theorem keep_good (S : Nat → Int) : goodB (keepF S) = true := by
  refine clm_good _ ?_
  unfold keepI
  split
  · rename_i h; exact (unitB_iff S).1 h
  · exact turnd_unit _ _ (unit_good S)
theorem good_parts {K : Nat → Int} (h : goodB K = true) : (∀ i, i < 24 → -(boxF i) ≤ K i ∧ K i ≤ boxF i) ∧ unitB K = true := by
  unfold goodB at h
  rw [Bool.and_eq_true] at h
  exact ⟨boxQ_iff.1 h.1, h.2⟩
end Go.Proofs.Ytanmddenleffaaa
/- copy of numbers of one block into another. -/
namespace Go.Proofs.Ytanmddenleffaaa
open Go.RowKit
open Go in
theorem step_copy_nums {ops : Array Oper} {o : Oper} {a : Act} {w : World} {K : Act → World → Prop} {Q : Exit → Act → World → Prop} {E : Prop} (hgd : o.guard = none) (d s : Operand)
    (ho : o.op = .call { callee := .builtin .copy, args := #[d, s], argTypes := #[50, 50] })
    (g off dl dc : Nat) (hd : a.eval d = .slice (some ⟨g, off, none⟩) dl dc) (sg so m sc : Nat) (hs : a.eval s = .slice (some ⟨sg, so, none⟩) m sc) (hml : m ≤ dl)
    (t n : Nat) (T : Nat → Int) (hg : Blk w g t n T) (ts ns : Nat) (S : Nat → Int) (hsb : Blk w sg ts ns S) (hfit : off + m ≤ n) (hso : so + m ≤ ns)
    (h : K (a.put o.dst (.int .i64 (m : Int))) (w.setRow g (arrv n (putF T off m (fun i => S (so + i)))))) :
    if Region.wanted o (yielded ops a.tmps) = true then Oper.wp Try.prog o a w K Q else E := by
  have hlen : (arrv m (fun i => S (so + i))).toList.length = m := by rw [Array.length_toList, arrv_size]
  refine step_copy_row hgd d s 50 50 ho 2 Try.underlying50 (by kernel_rfl) ⟨sg, so, none⟩ dl dc m sc g off hd hs (arrv n T).toList t (by have hb := hg; unfold Blk at hb; simpa using hb) (arrv m (fun i => S (so + i))).toList (by rw [hlen]; exact (Nat.min_eq_left hml).symm) (fun j u hu => ?_) (by rw [hlen, Array.length_toList, arrv_size]; exact hfit) (fun u hu => ?_) ?_
  · have hj : j < m := by have := (List.getElem?_eq_some_iff.1 hu).1; rwa [hlen] at this
    rw [Array.getElem?_toList, arrv_get hj] at hu
    injection hu with hu
    subst hu
    have hc := hsb.cell (i := so + j) (by omega)
    by_cases h0 : j = 0
    · subst h0; simpa [Addr.add] using hc
    · simpa [Addr.add, h0] using hc
  · exact (Array.all_eq_true'.1 (oneCell_arrv m _)) u (by simpa using hu)
  · rw [hlen]
    have e : (splice (arrv n T).toList off (arrv m (fun i => S (so + i))).toList).toArray = arrv n (putF T off m (fun i => S (so + i))) := by
      rw [← arrv_splice n off m T _ hfit]
      unfold splice
      rw [hlen, List.append_assoc]
    rw [e]
    exact h
theorem clen : Try.prog.arrayLen 26 = 24 := by kernel_rfl
theorem cund : Try.prog.underlying 26 = some (.array (Try.prog.arrayLen 26) (Try.prog.elem 26)) := by kernel_rfl
theorem flen : Try.prog.arrayLen 39 = 4 := by kernel_rfl
theorem fund : Try.prog.underlying 39 = some (.array (Try.prog.arrayLen 39) (Try.prog.elem 39)) := by kernel_rfl
open Go in
/-- r[0:] of a row of 24, wherever it lies. -/
theorem run_slice_c0 {o : Oper} {ev : Operand → Value} {w : World} (x : Operand) (ho : o.op = .slice 26 x (some (.const (.int .i64 0))) none none) (hc : ev (.const (.int .i64 0)) = .int .i64 0) (g off : Nat) (hx : ev x = .pointer (some ⟨g, off, none⟩)) :
    (execOp ev o).run Try.prog w = .ok (.value (.slice (some ⟨g, off, none⟩) 24 24)) w := by
  have h := run_sliceAt_array_l (P := Try.prog) w 26 ⟨g, off, none⟩ cund .i64 0 (by omega) (by rw [clen]; omega)
  unfold execOp
  simp only [ho, hx, hc, Option.map_none, Option.map_some]
  rw [Sem.run_bind, h]
  have hs : (sizeOf (Try.prog.elem 26)).run Try.prog w = .ok 1 w := by rw [show Try.prog.elem 26 = 2 from by kernel_rfl]; simp [go_sem]
  rw [hs, clen]
  simp [slicedAt, go_sem, Addr.add]
open Go in
/-- r[:] of a row of four, wherever it lies. -/
theorem run_slice_f4 {o : Oper} {ev : Operand → Value} {w : World} (x : Operand) (ho : o.op = .slice 39 x none none none) (g off : Nat) (hx : ev x = .pointer (some ⟨g, off, none⟩)) :
    (execOp ev o).run Try.prog w = .ok (.value (.slice (some ⟨g, off, none⟩) 4 4)) w := by
  have h := run_sliceAt_array_all (P := Try.prog) w 39 ⟨g, off, none⟩ fund
  unfold execOp
  simp only [ho, hx, Option.map_none]
  rw [Sem.run_bind, h]
  have hs : (sizeOf (Try.prog.elem 39)).run Try.prog w = .ok 1 w := by rw [show Try.prog.elem 39 = 2 from by kernel_rfl]; simp [go_sem]
  rw [hs, flen]
  simp [slicedAt, go_sem]
open Go in
theorem run_index_a3 {o : Oper} {ev : Operand → Value} {w : World} {f : Nat → Int} (x y : Operand) (ho : o.op = .index 31 x y) (hx : ev x = .agg (arrv 3 f)) (k : Nat)
    (hy : ev y = .int .i64 (k : Int)) (hk : k < 3) : (execOp ev o).run Try.prog w = .ok (.value (.int .i64 (f k))) w := by
  have e2 : (arrv 3 f)[k]? = some (.int .i64 (f k)) := arrv_get hk
  unfold execOp
  simp only [ho, hx, hy, Sem.run_bind]
  have := Try.underlying31
  simp [Instr.index, run_underlying this, asIntOf, hk, go_sem, part, e2]
end Go.Proofs.Ytanmddenleffaaa
