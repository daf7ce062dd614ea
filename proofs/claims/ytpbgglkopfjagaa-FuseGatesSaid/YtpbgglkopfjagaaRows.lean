/-
  No cell of these rows narrows 'for every input' (looked for: loops, veiled, ifaces, maps, wideKeys, modest, calm, conditions, laid).
  DERIVED. THE GIVEN ROWS OF THIS SEAT. 2 by the template 'for every input the law returns true; each argument reads behind the call as it read before'; 0 by the template 'total and deterministic' (their statements: YtpbgglkopfjagaaTotals.lean).
  GIVEN WITH THE SEED: the statements are not yours to turn. If you find one false, say at which input.
  Laid BY PROGRAM, IN A SANDBOX (cutbox-rows.mjs): the forced cells as the released guide's own fill.sh prints them over the translation 101f121c8cb21e7b… (all of the seat's roots in one cut). By AI agents, Wed Nov 11 2026. No macro, syntax, notation, axiom, sorry.
-/
import Derived.Test.YtpbgglkopfjagaaChecked
import GoSem.Claim
import GoSem.ClaimJoined
import GoSem.ClaimMapViews
import Derived.JoinedTies
import Derived.KernelRfl
namespace Go.Proofs.Ytpbgglkopfjagaa
/- THE CELL 'sum', in the pinned program and in every row, IS THE sha256 OF THE DUMP (.gsa) THAT YtpbgglkopfjagaaProg.lean LOADS. Nothing in Lean hashes anything: it is a label: what it is worth is what the hold of that sum in a sandbox is worth. -/
noncomputable def Try.pinned : Pinned := { name := "ytpbgglkopfjagaa", sum := "101f121c8cb21e7bd76aeeadee909c493ae7cb790e0f1b1dd5cc2f0e01254e9c", checked := Try.checked }
namespace Rows
def none {H : Type} : Left H := { results := [], args := [] }

/-- 'astrolabelaw18.FuseMany': WHATEVER THE INPUT: true; the input reads as it did. -/
def fuseManySpec : ChangeSpec := { name := "fuseMany", fn := fun _ => fun
  | [d1, d2, d3] => { results := [.lit (.bool true)], args := [d1, d2, d3] }
  | _ => none }
def fuseManyRow : OpenClaim := { program := "ytpbgglkopfjagaa", sum := "101f121c8cb21e7bd76aeeadee909c493ae7cb790e0f1b1dd5cc2f0e01254e9c", func := "astrolabe/astrolabelaw18.FuseMany", spec := "fuseMany", inPlace := ["math/bits.Add64", "math/bits.Sub64"], unfollowed := true, recurses := true, named := ["math/bits.divideError", "math/bits.overflowError"], apart := false }
def FuseManySaid : Prop := fuseManyRow.holds Try.pinned (OpenSpec.ofChange fuseManySpec)

/-- ITS FALSE NEIGHBOUR: 'it returns false'. Refute it at one input. -/
def fuseManyWrong : ChangeSpec := { name := "fuseMany", fn := fun _ => fun
  | [d1, d2, d3] => { results := [.lit (.bool false)], args := [d1, d2, d3] }
  | _ => none }
def FuseManyWrongFalsely : Prop := fuseManyRow.holds Try.pinned (OpenSpec.ofChange fuseManyWrong)

/-- 'astrolabelaw18.FuseGates': WHATEVER THE INPUT: true; the input reads as it did. -/
def fuseGatesSpec : ChangeSpec := { name := "fuseGates", fn := fun _ => fun
  | [d1, d2, d3] => { results := [.lit (.bool true)], args := [d1, d2, d3] }
  | _ => none }
def fuseGatesRow : OpenClaim := { program := "ytpbgglkopfjagaa", sum := "101f121c8cb21e7bd76aeeadee909c493ae7cb790e0f1b1dd5cc2f0e01254e9c", func := "astrolabe/astrolabelaw18.FuseGates", spec := "fuseGates", inPlace := ["math/bits.Add64", "math/bits.Sub64"], unfollowed := true, recurses := true, named := ["math/bits.divideError", "math/bits.overflowError"], apart := false }
def FuseGatesSaid : Prop := fuseGatesRow.holds Try.pinned (OpenSpec.ofChange fuseGatesSpec)

/-- ITS FALSE NEIGHBOUR: 'it returns false'. Refute it at one input. -/
def fuseGatesWrong : ChangeSpec := { name := "fuseGates", fn := fun _ => fun
  | [d1, d2, d3] => { results := [.lit (.bool false)], args := [d1, d2, d3] }
  | _ => none }
def FuseGatesWrongFalsely : Prop := fuseGatesRow.holds Try.pinned (OpenSpec.ofChange fuseGatesWrong)

/- THE SECOND FORM. 'bulk': how many values and letters a reading holds, each counted each time it is reached (what is shared counts as often as it is met; a slice's spare places count too). A statement '..UptoSaid' is the law's where the arguments, and the package variables that the reading takes, are together of bulk at most 1048576: NARROWER than '..Said'. Prove '..Said' where nothing that the law and all that it calls make is longer than what came in: it says more and counts as full. Else prove '..UptoSaid'. A law counts once. -/
mutual
def uptoBulk {H : Type} : DataW H → Nat
  | .lit (.string bytes) => bytes.length + 1
  | .lit _ => 1
  | .nil => 1
  | .ptr d => uptoBulk d + 1
  | .slice elems spare => uptoBulkAll elems + uptoBulkAll spare + 1
  | .agg parts => uptoBulkAll parts + 1
  | .iface _ d => uptoBulk d + 1
  | .map entries => uptoBulkEntries entries + 1
  | .held _ => 1
def uptoBulkAll {H : Type} : List (DataW H) → Nat
  | [] => 0
  | d :: r => uptoBulk d + uptoBulkAll r
def uptoBulkEntries {H : Type} : List (Lit × DataW H) → Nat
  | [] => 0
  | x :: r => uptoBulkEntry x + uptoBulkEntries r
def uptoBulkEntry {H : Type} : Lit × DataW H → Nat
  | (.string bytes, d) => bytes.length + uptoBulk d + 1
  | (_, d) => uptoBulk d + 1
 end
def uptoSmall : (H : Type) → List (DataW H) → Bool := fun _ ds => decide (uptoBulkAll ds ≤ 1048576)
def OpenSpec.upto (s : _root_.Go.ChangeSpec) : _root_.Go.OpenSpec := { _root_.Go.OpenSpec.ofChange s with cond := some uptoSmall }

/-- 'astrolabelaw18.FuseMany', WHERE WHAT IT READS IS OF BULK AT MOST 1048576: true; the input reads as it did. -/
def fuseManyUptoRow : OpenClaim := { program := "ytpbgglkopfjagaa", sum := "101f121c8cb21e7bd76aeeadee909c493ae7cb790e0f1b1dd5cc2f0e01254e9c", func := "astrolabe/astrolabelaw18.FuseMany", spec := "fuseMany", inPlace := ["math/bits.Add64", "math/bits.Sub64"], unfollowed := true, recurses := true, named := ["math/bits.divideError", "math/bits.overflowError"], apart := false, narrowed := true }
def FuseManyUptoSaid : Prop := fuseManyUptoRow.holds Try.pinned (OpenSpec.upto fuseManySpec)

/-- 'astrolabelaw18.FuseGates', WHERE WHAT IT READS IS OF BULK AT MOST 1048576: true; the input reads as it did. -/
def fuseGatesUptoRow : OpenClaim := { program := "ytpbgglkopfjagaa", sum := "101f121c8cb21e7bd76aeeadee909c493ae7cb790e0f1b1dd5cc2f0e01254e9c", func := "astrolabe/astrolabelaw18.FuseGates", spec := "fuseGates", inPlace := ["math/bits.Add64", "math/bits.Sub64"], unfollowed := true, recurses := true, named := ["math/bits.divideError", "math/bits.overflowError"], apart := false, narrowed := true }
def FuseGatesUptoSaid : Prop := fuseGatesUptoRow.holds Try.pinned (OpenSpec.upto fuseGatesSpec)

end Rows
end Go.Proofs.Ytpbgglkopfjagaa
