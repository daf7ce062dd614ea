/- Contracts of the program's functions and plain laws, part 17: they hold for all arguments. -/
import Derived.Test.YtchholofnccbmaaQ16
import Derived.Test.YtchholofnccbmaaQ09
/- '==' of two rows. -/
namespace Go.Proofs.Ytchholofnccbmaa
open Go.RowKit
set_option maxRecDepth 100000
theorem run_equal_row (w : World) (f g : Nat → Int) : (Op.equal 40 (.agg (arrv 24 f)) (.agg (arrv 24 g))).run Try.prog w = .ok (eqB 24 f g) w := by
  have h : (Try.prog.info? 2).map (·.size) = some 1 := by kernel_rfl
  obtain ⟨i, h2, s2⟩ : ∃ i, Try.prog.info? 2 = some i ∧ i.size = 1 := by
    cases e : Try.prog.info? 2 with
    | none => rw [e] at h; cases h
    | some i => rw [e] at h; exact ⟨i, rfl, by simpa using h⟩
  exact run_equalIn_vec (w := w) 9998 Try.underlying40 Try.underlying2 (by simp [Program.cellsOf, h2, s2]) h2 _ _
open Go in
theorem run_op_eqlRow {o : Oper} {ev : Operand → Value} {w : World} (x y : Operand) (ho : o.op = .binOp .eql 40 x y 40) {f g : Nat → Int} (hx : ev x = .agg (arrv 24 f)) (hy : ev y = .agg (arrv 24 g)) {b : Bool} (hb : eqB 24 f g = b) :
    (execOp ev o).run Try.prog w = .ok (.value (.bool b)) w := by
  have e := run_equal_row w f g
  have hG : Try.prog.eqGuardType Try.prog.depth 40 = false := by kernel_rfl
  unfold execOp
  simp only [ho, hx, hy, eqGuard, binOp, Sem.run_bind, Sem.run_pure, Result.andThen_ok]
  simp [hG, e, hb, go_sem]
theorem iu276 : (Try.prog.info? 28).map (·.size) = some 276 := by kernel_rfl
theorem run_equal_u (w : World) (f g : Nat → Int) : (Op.equal 28 (.agg (arrv 276 f)) (.agg (arrv 276 g))).run Try.prog w = .ok (eqB 276 f g) w := by
  have h : (Try.prog.info? 2).map (·.size) = some 1 := by kernel_rfl
  obtain ⟨i, h2, s2⟩ : ∃ i, Try.prog.info? 2 = some i ∧ i.size = 1 := by
    cases e : Try.prog.info? 2 with
    | none => rw [e] at h; cases h
    | some i => rw [e] at h; exact ⟨i, rfl, by simpa using h⟩
  exact run_equalIn_vec (w := w) 9998 Try.underlying28 Try.underlying2 (by simp [Program.cellsOf, h2, s2]) h2 _ _
open Go in
theorem run_op_eqlU {o : Oper} {ev : Operand → Value} {w : World} (x y : Operand) (ho : o.op = .binOp .eql 28 x y 28) {f g : Nat → Int} (hx : ev x = .agg (arrv 276 f)) (hy : ev y = .agg (arrv 276 g)) {b : Bool} (hb : eqB 276 f g = b) :
    (execOp ev o).run Try.prog w = .ok (.value (.bool b)) w := by
  have e := run_equal_u w f g
  have hG : Try.prog.eqGuardType Try.prog.depth 28 = false := by kernel_rfl
  unfold execOp
  simp only [ho, hx, hy, eqGuard, binOp, Sem.run_bind, Sem.run_pure, Result.andThen_ok]
  simp [hG, e, hb, go_sem]
open Go in
theorem wpAnyM_threeS {P : Program} {ops : Array Oper} {Q : Exit → Act → World → Prop} {md : Region.Mode} {L : Nat} {S : World → Prop} (i j l : Nat) {oi oj ol : Oper} {fuel : Nat} {listed : Array Bool} {a : Act} {w : World} (hi : ops.toList[i]? = some oi) (hj : ops.toList[j]? = some oj) (hl : ops.toList[l]? = some ol) (hr : Region.ready md ops listed = [i, j, l])
    (h1 : ∀ K : Act → World → Prop, Shut (∀ a w, S w → (S w → wpAnyM P md ops Q S L fuel (listed.setIfInBounds i true) a w) → K a w) →
      if Region.wanted oi (yielded ops a.tmps) = true then Oper.wp P oi a w K Q else K (a.put oi.dst undef) w)
    (h2 : ∀ K : Act → World → Prop, Shut (∀ a w, S w → (S w → wpAnyM P md ops Q S L fuel (listed.setIfInBounds j true) a w) → K a w) →
      if Region.wanted oj (yielded ops a.tmps) = true then Oper.wp P oj a w K Q else K (a.put oj.dst undef) w)
    (h3 : ∀ K : Act → World → Prop, Shut (∀ a w, S w → (S w → wpAnyM P md ops Q S L fuel (listed.setIfInBounds l true) a w) → K a w) →
      if Region.wanted ol (yielded ops a.tmps) = true then Oper.wp P ol a w K Q else K (a.put ol.dst undef) w) :
    wpAnyM P md ops Q S L (fuel + 1) listed a w := by
  have hi' : ops[i]? = some oi := by rwa [Array.getElem?_toList] at hi
  have hj' : ops[j]? = some oj := by rwa [Array.getElem?_toList] at hj
  have hl' : ops[l]? = some ol := by rwa [Array.getElem?_toList] at hl
  refine ⟨fun h0 => (by rw [hr] at h0; cases h0), fun k hk => ?_⟩
  rw [hr] at hk
  have hk' : k = i ∨ k = j ∨ k = l := by simpa using hk
  rcases hk' with rfl | rfl | rfl
  · exact wpOp_step hi' (fun K' hK => h1 K' (fun a w hS hW => hK a w ⟨.inr hS, hW hS⟩))
  · exact wpOp_step hj' (fun K' hK => h2 K' (fun a w hS hW => hK a w ⟨.inr hS, hW hS⟩))
  · exact wpOp_step hl' (fun K' hK => h3 K' (fun a w hS hW => hK a w ⟨.inr hS, hW hS⟩))
open Go in
/-- An operation that changes the world and gives nothing (a store), by its run: the walk's goal is never looked into. -/
theorem wpAnyM_doneS {P : Program} {ops : Array Oper} {Q : Exit → Act → World → Prop} {md : Region.Mode} {L : Nat} {S : World → Prop} (i : Nat) {o : Oper} {fuel : Nat} {listed : Array Bool} {a : Act} {w w' : World} (ho : ops.toList[i]? = some o) (hr : Region.ready md ops listed = [i])
    (hw : Region.wanted o (yielded ops a.tmps) = true) (hy : (execOp a.eval o).run P w = .ok .skip w') (hS : S w') (h : S w' → wpAnyM P md ops Q S L fuel (listed.setIfInBounds i true) (a.put o.dst undef) w') :
    wpAnyM P md ops Q S L (fuel + 1) listed a w :=
  wpAnyM_oneS i ho hr fun K hK => by
    rw [if_pos hw]
    exact wp_of_run hy (hK.out _ _ hS h)
end Go.Proofs.Ytchholofnccbmaa
