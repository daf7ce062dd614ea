/- Stores in a region that draws its order, by their runs: the walk's goal is never looked into. -/
import Derived.Test.YtcombidoaghlbaaS01
namespace Go.Proofs.Ytcombidoaghlbaa
open Go.RowKit
open Go in
/-- The last operation that changes the world (a store), by its run: the walk's goal is never looked into. -/
theorem wpAnyM_doneL {P : Program} {ops : Array Oper} {Q : Exit → Act → World → Prop} {md : Region.Mode} {L : Nat} {S : World → Prop} (i : Nat) {o : Oper} {fuel : Nat} {listed : Array Bool} {a : Act} {w w' : World} (ho : ops.toList[i]? = some o) (hr : Region.ready md ops listed = [i])
    (hw : Region.wanted o (yielded ops a.tmps) = true) (hl : (listed.setIfInBounds i true).getD L false = true) (hy : (execOp a.eval o).run P w = .ok .skip w') (h : wpAnyM P md ops Q S L fuel (listed.setIfInBounds i true) (a.put o.dst undef) w') :
    wpAnyM P md ops Q S L (fuel + 1) listed a w :=
  wpAnyM_one i ho hr fun K hK => by
    rw [if_pos hw]
    exact wp_of_run hy (hK.out _ _ (.inl hl) fun _ => h)
end Go.Proofs.Ytcombidoaghlbaa
