/- A region that draws its order, where several operations may come first: the orders that have done the same set of operations are walked once from there ('share'). -/
import Derived.Test.YtchholofnccbmaaQ17
namespace Go.Proofs.Ytchholofnccbmaa
open Go
/-- What is asked at several places, shown once: T is found at the first of them. -/
inductive Shr (T : Prop) : Prop where
  | mk (out : T) : Shr T
theorem Shr.out {T : Prop} : Shr T → T := fun ⟨h⟩ => h
theorem share {T G : Prop} (h : Shr T → G) (p : T) : G := h ⟨p⟩
theorem wpAnyM_fourS {P : Program} {ops : Array Oper} {Q : Exit → Act → World → Prop} {md : Region.Mode} {L : Nat} {S : World → Prop} (i j l m : Nat) {oi oj ol om : Oper} {fuel : Nat} {listed : Array Bool} {a : Act} {w : World} (hi : ops.toList[i]? = some oi) (hj : ops.toList[j]? = some oj) (hl : ops.toList[l]? = some ol) (hm : ops.toList[m]? = some om) (hr : Region.ready md ops listed = [i, j, l, m])
    (h1 : ∀ K : Act → World → Prop, Shut (∀ a w, S w → (S w → wpAnyM P md ops Q S L fuel (listed.setIfInBounds i true) a w) → K a w) →
      if Region.wanted oi (yielded ops a.tmps) = true then Oper.wp P oi a w K Q else K (a.put oi.dst undef) w)
    (h2 : ∀ K : Act → World → Prop, Shut (∀ a w, S w → (S w → wpAnyM P md ops Q S L fuel (listed.setIfInBounds j true) a w) → K a w) →
      if Region.wanted oj (yielded ops a.tmps) = true then Oper.wp P oj a w K Q else K (a.put oj.dst undef) w)
    (h3 : ∀ K : Act → World → Prop, Shut (∀ a w, S w → (S w → wpAnyM P md ops Q S L fuel (listed.setIfInBounds l true) a w) → K a w) →
      if Region.wanted ol (yielded ops a.tmps) = true then Oper.wp P ol a w K Q else K (a.put ol.dst undef) w)
    (h4 : ∀ K : Act → World → Prop, Shut (∀ a w, S w → (S w → wpAnyM P md ops Q S L fuel (listed.setIfInBounds m true) a w) → K a w) →
      if Region.wanted om (yielded ops a.tmps) = true then Oper.wp P om a w K Q else K (a.put om.dst undef) w) :
    wpAnyM P md ops Q S L (fuel + 1) listed a w := by
  have hi' : ops[i]? = some oi := by rwa [Array.getElem?_toList] at hi
  have hj' : ops[j]? = some oj := by rwa [Array.getElem?_toList] at hj
  have hl' : ops[l]? = some ol := by rwa [Array.getElem?_toList] at hl
  have hm' : ops[m]? = some om := by rwa [Array.getElem?_toList] at hm
  refine ⟨fun h0 => (by rw [hr] at h0; cases h0), fun k hk => ?_⟩
  rw [hr] at hk
  have hk' : k = i ∨ k = j ∨ k = l ∨ k = m := by simpa using hk
  rcases hk' with rfl | rfl | rfl | rfl
  · exact wpOp_step hi' (fun K' hK => h1 K' (fun a w hS hW => hK a w ⟨.inr hS, hW hS⟩))
  · exact wpOp_step hj' (fun K' hK => h2 K' (fun a w hS hW => hK a w ⟨.inr hS, hW hS⟩))
  · exact wpOp_step hl' (fun K' hK => h3 K' (fun a w hS hW => hK a w ⟨.inr hS, hW hS⟩))
  · exact wpOp_step hm' (fun K' hK => h4 K' (fun a w hS hW => hK a w ⟨.inr hS, hW hS⟩))
end Go.Proofs.Ytchholofnccbmaa
