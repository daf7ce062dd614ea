/-
  No cell of these rows narrows 'for every input' (looked for: loops, veiled, ifaces, maps, wideKeys, modest, calm, conditions, laid).
  DERIVED. THE GIVEN ROWS OF THIS SEAT. 3 by the template 'for every input the law returns true; each argument reads behind the call as it read before'; 0 by the template 'total and deterministic' (their statements: YtomcniampdpnhaaTotals.lean).
  GIVEN WITH THE SEED: the statements are not yours to turn. If you find one false, say at which input.
  Laid BY PROGRAM, IN A SANDBOX (cutbox-rows.mjs): the forced cells as the released guide's own fill.sh prints them over the translation 31aa6cebdc87649a… (all of the seat's roots in one cut). By AI agents, Wed Nov 11 2026. No macro, syntax, notation, axiom, sorry.
-/
import Derived.Test.YtomcniampdpnhaaChecked
import GoSem.Claim
import GoSem.ClaimJoined
import GoSem.ClaimMapViews
import Derived.JoinedTies
import Derived.KernelRfl
namespace Go.Proofs.Ytomcniampdpnhaa
/- THE CELL 'sum', in the pinned program and in every row, IS THE sha256 OF THE DUMP (.gsa) THAT YtomcniampdpnhaaProg.lean LOADS. Nothing in Lean hashes anything: it is a label: what it is worth is what the hold of that sum in a sandbox is worth. -/
noncomputable def Try.pinned : Pinned := { name := "ytomcniampdpnhaa", sum := "31aa6cebdc87649ac056e8734fdca37be4ee5a0d3e0f0f25c82b8d8e3dc31b23", checked := Try.checked }
namespace Rows
def none {H : Type} : Left H := { results := [], args := [] }

/-- 'astrolabelaw10.ThorntonGood': WHATEVER THE INPUT: true; the input reads as it did. -/
def thorntonGoodSpec : ChangeSpec := { name := "thorntonGood", fn := fun _ => fun
  | [d1, d2, d3, d4] => { results := [.lit (.bool true)], args := [d1, d2, d3, d4] }
  | _ => none }
def thorntonGoodRow : OpenClaim := { program := "ytomcniampdpnhaa", sum := "31aa6cebdc87649ac056e8734fdca37be4ee5a0d3e0f0f25c82b8d8e3dc31b23", func := "astrolabe/astrolabelaw10.ThorntonGood", spec := "thorntonGood", inPlace := ["math/bits.Add64"], named := ["math/bits.divideError", "math/bits.overflowError"], apart := false }
def ThorntonGoodSaid : Prop := thorntonGoodRow.holds Try.pinned (OpenSpec.ofChange thorntonGoodSpec)

/-- ITS FALSE NEIGHBOUR: 'it returns false'. Refute it at one input. -/
def thorntonGoodWrong : ChangeSpec := { name := "thorntonGood", fn := fun _ => fun
  | [d1, d2, d3, d4] => { results := [.lit (.bool false)], args := [d1, d2, d3, d4] }
  | _ => none }
def ThorntonGoodWrongFalsely : Prop := thorntonGoodRow.holds Try.pinned (OpenSpec.ofChange thorntonGoodWrong)

/-- 'astrolabelaw10.ThorntonKnown': WHATEVER THE INPUT: true; the input reads as it did. -/
def thorntonKnownSpec : ChangeSpec := { name := "thorntonKnown", fn := fun _ => fun
  | [] => { results := [.lit (.bool true)], args := [] }
  | _ => none }
def thorntonKnownRow : OpenClaim := { program := "ytomcniampdpnhaa", sum := "31aa6cebdc87649ac056e8734fdca37be4ee5a0d3e0f0f25c82b8d8e3dc31b23", func := "astrolabe/astrolabelaw10.ThorntonKnown", spec := "thorntonKnown", inPlace := ["math/bits.Add64"], named := ["math/bits.divideError", "math/bits.overflowError"], apart := false }
def ThorntonKnownSaid : Prop := thorntonKnownRow.holds Try.pinned (OpenSpec.ofChange thorntonKnownSpec)

/-- ITS FALSE NEIGHBOUR: 'it returns false'. Refute it at one input. -/
def thorntonKnownWrong : ChangeSpec := { name := "thorntonKnown", fn := fun _ => fun
  | [] => { results := [.lit (.bool false)], args := [] }
  | _ => none }
def ThorntonKnownWrongFalsely : Prop := thorntonKnownRow.holds Try.pinned (OpenSpec.ofChange thorntonKnownWrong)

/-- 'astrolabelaw10.ThorntonMoves': WHATEVER THE INPUT: true; the input reads as it did. -/
def thorntonMovesSpec : ChangeSpec := { name := "thorntonMoves", fn := fun _ => fun
  | [d1, d2, d3] => { results := [.lit (.bool true)], args := [d1, d2, d3] }
  | _ => none }
def thorntonMovesRow : OpenClaim := { program := "ytomcniampdpnhaa", sum := "31aa6cebdc87649ac056e8734fdca37be4ee5a0d3e0f0f25c82b8d8e3dc31b23", func := "astrolabe/astrolabelaw10.ThorntonMoves", spec := "thorntonMoves", inPlace := ["math/bits.Add64"], named := ["math/bits.divideError", "math/bits.overflowError"], apart := false }
def ThorntonMovesSaid : Prop := thorntonMovesRow.holds Try.pinned (OpenSpec.ofChange thorntonMovesSpec)

/-- ITS FALSE NEIGHBOUR: 'it returns false'. Refute it at one input. -/
def thorntonMovesWrong : ChangeSpec := { name := "thorntonMoves", fn := fun _ => fun
  | [d1, d2, d3] => { results := [.lit (.bool false)], args := [d1, d2, d3] }
  | _ => none }
def ThorntonMovesWrongFalsely : Prop := thorntonMovesRow.holds Try.pinned (OpenSpec.ofChange thorntonMovesWrong)

/- THE SECOND FORM. 'bulk': how many values and letters a reading holds, each counted each time it is reached (what is shared counts as often as it is met; a slice's spare places count too). A statement '..UptoSaid' is the law's where the arguments, and the package variables that the reading takes, are together of bulk at most 1048576: NARROWER than '..Said'. Prove '..Said' where nothing that the law and all that it calls make is longer than what came in: it says more and counts as full. Else prove '..UptoSaid'. A law counts once. -/
mutual
def uptoBulk {H : Type} : DataW H → Nat
  | .lit (.string bytes) => bytes.length + 1
  | .lit _ => 1
  | .nil => 1
  | .ptr d => uptoBulk d + 1
  | .slice elems spare => uptoBulkAll elems + uptoBulkAll spare + 1
  | .agg parts => uptoBulkAll parts + 1
  | .iface _ d => uptoBulk d + 1
  | .map entries => uptoBulkEntries entries + 1
  | .held _ => 1
def uptoBulkAll {H : Type} : List (DataW H) → Nat
  | [] => 0
  | d :: r => uptoBulk d + uptoBulkAll r
def uptoBulkEntries {H : Type} : List (Lit × DataW H) → Nat
  | [] => 0
  | x :: r => uptoBulkEntry x + uptoBulkEntries r
def uptoBulkEntry {H : Type} : Lit × DataW H → Nat
  | (.string bytes, d) => bytes.length + uptoBulk d + 1
  | (_, d) => uptoBulk d + 1
 end
def uptoSmall : (H : Type) → List (DataW H) → Bool := fun _ ds => decide (uptoBulkAll ds ≤ 1048576)
def OpenSpec.upto (s : _root_.Go.ChangeSpec) : _root_.Go.OpenSpec := { _root_.Go.OpenSpec.ofChange s with cond := some uptoSmall }

/-- 'astrolabelaw10.ThorntonGood', WHERE WHAT IT READS IS OF BULK AT MOST 1048576: true; the input reads as it did. -/
def thorntonGoodUptoRow : OpenClaim := { program := "ytomcniampdpnhaa", sum := "31aa6cebdc87649ac056e8734fdca37be4ee5a0d3e0f0f25c82b8d8e3dc31b23", func := "astrolabe/astrolabelaw10.ThorntonGood", spec := "thorntonGood", inPlace := ["math/bits.Add64"], named := ["math/bits.divideError", "math/bits.overflowError"], apart := false, narrowed := true }
def ThorntonGoodUptoSaid : Prop := thorntonGoodUptoRow.holds Try.pinned (OpenSpec.upto thorntonGoodSpec)

/-- 'astrolabelaw10.ThorntonKnown', WHERE WHAT IT READS IS OF BULK AT MOST 1048576: true; the input reads as it did. -/
def thorntonKnownUptoRow : OpenClaim := { program := "ytomcniampdpnhaa", sum := "31aa6cebdc87649ac056e8734fdca37be4ee5a0d3e0f0f25c82b8d8e3dc31b23", func := "astrolabe/astrolabelaw10.ThorntonKnown", spec := "thorntonKnown", inPlace := ["math/bits.Add64"], named := ["math/bits.divideError", "math/bits.overflowError"], apart := false, narrowed := true }
def ThorntonKnownUptoSaid : Prop := thorntonKnownUptoRow.holds Try.pinned (OpenSpec.upto thorntonKnownSpec)

/-- 'astrolabelaw10.ThorntonMoves', WHERE WHAT IT READS IS OF BULK AT MOST 1048576: true; the input reads as it did. -/
def thorntonMovesUptoRow : OpenClaim := { program := "ytomcniampdpnhaa", sum := "31aa6cebdc87649ac056e8734fdca37be4ee5a0d3e0f0f25c82b8d8e3dc31b23", func := "astrolabe/astrolabelaw10.ThorntonMoves", spec := "thorntonMoves", inPlace := ["math/bits.Add64"], named := ["math/bits.divideError", "math/bits.overflowError"], apart := false, narrowed := true }
def ThorntonMovesUptoSaid : Prop := thorntonMovesUptoRow.holds Try.pinned (OpenSpec.upto thorntonMovesSpec)

end Rows
end Go.Proofs.Ytomcniampdpnhaa
