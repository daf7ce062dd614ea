/-
  No cell of these rows narrows 'for every input' (looked for: loops, veiled, ifaces, maps, wideKeys, modest, calm, conditions, laid).
  DERIVED. THE GIVEN ROWS OF THIS SEAT. 5 by the template 'for every input the law returns true; each argument reads behind the call as it read before'; 0 by the template 'total and deterministic' (their statements: YtkfapackpggagaaTotals.lean).
  GIVEN WITH THE SEED: the statements are not yours to turn. If you find one false, say at which input.
  Laid BY PROGRAM, IN A SANDBOX (cutbox-rows.mjs): the forced cells as the released guide's own fill.sh prints them over the translation 19c7c0163f9b4fa7… (all of the seat's roots in one cut). By AI agents, Wed Nov 11 2026. No macro, syntax, notation, axiom, sorry.
-/
import Derived.Test.YtkfapackpggagaaChecked
import GoSem.Claim
import GoSem.ClaimJoined
import GoSem.ClaimMapViews
import Derived.JoinedTies
import Derived.KernelRfl
namespace Go.Proofs.Ytkfapackpggagaa
/- THE CELL 'sum', in the pinned program and in every row, IS THE sha256 OF THE DUMP (.gsa) THAT YtkfapackpggagaaProg.lean LOADS. Nothing in Lean hashes anything: it is a label: what it is worth is what the hold of that sum in a sandbox is worth. -/
noncomputable def Try.pinned : Pinned := { name := "ytkfapackpggagaa", sum := "19c7c0163f9b4fa7f5bc67ca5497d682380384a5a2efe925df8ee3b040b11d40", checked := Try.checked }
namespace Rows
def none {H : Type} : Left H := { results := [], args := [] }

/-- 'astrolabelaw11.BiermanNothing': WHATEVER THE INPUT: true; the input reads as it did. -/
def biermanNothingSpec : ChangeSpec := { name := "biermanNothing", fn := fun _ => fun
  | [d1, d2] => { results := [.lit (.bool true)], args := [d1, d2] }
  | _ => none }
def biermanNothingRow : OpenClaim := { program := "ytkfapackpggagaa", sum := "19c7c0163f9b4fa7f5bc67ca5497d682380384a5a2efe925df8ee3b040b11d40", func := "astrolabe/astrolabelaw11.BiermanNothing", spec := "biermanNothing", inPlace := ["math/bits.Add64"], named := ["math/bits.divideError", "math/bits.overflowError"], apart := false }
def BiermanNothingSaid : Prop := biermanNothingRow.holds Try.pinned (OpenSpec.ofChange biermanNothingSpec)

/-- ITS FALSE NEIGHBOUR: 'it returns false'. Refute it at one input. -/
def biermanNothingWrong : ChangeSpec := { name := "biermanNothing", fn := fun _ => fun
  | [d1, d2] => { results := [.lit (.bool false)], args := [d1, d2] }
  | _ => none }
def BiermanNothingWrongFalsely : Prop := biermanNothingRow.holds Try.pinned (OpenSpec.ofChange biermanNothingWrong)

/-- 'astrolabelaw11.BiermanSign': WHATEVER THE INPUT: true; the input reads as it did. -/
def biermanSignSpec : ChangeSpec := { name := "biermanSign", fn := fun _ => fun
  | [d1, d2, d3] => { results := [.lit (.bool true)], args := [d1, d2, d3] }
  | _ => none }
def biermanSignRow : OpenClaim := { program := "ytkfapackpggagaa", sum := "19c7c0163f9b4fa7f5bc67ca5497d682380384a5a2efe925df8ee3b040b11d40", func := "astrolabe/astrolabelaw11.BiermanSign", spec := "biermanSign", inPlace := ["math/bits.Add64"], named := ["math/bits.divideError", "math/bits.overflowError"], apart := false }
def BiermanSignSaid : Prop := biermanSignRow.holds Try.pinned (OpenSpec.ofChange biermanSignSpec)

/-- ITS FALSE NEIGHBOUR: 'it returns false'. Refute it at one input. -/
def biermanSignWrong : ChangeSpec := { name := "biermanSign", fn := fun _ => fun
  | [d1, d2, d3] => { results := [.lit (.bool false)], args := [d1, d2, d3] }
  | _ => none }
def BiermanSignWrongFalsely : Prop := biermanSignRow.holds Try.pinned (OpenSpec.ofChange biermanSignWrong)

/-- 'astrolabelaw11.BiermanOne': WHATEVER THE INPUT: true; the input reads as it did. -/
def biermanOneSpec : ChangeSpec := { name := "biermanOne", fn := fun _ => fun
  | [d1, d2, d3] => { results := [.lit (.bool true)], args := [d1, d2, d3] }
  | _ => none }
def biermanOneRow : OpenClaim := { program := "ytkfapackpggagaa", sum := "19c7c0163f9b4fa7f5bc67ca5497d682380384a5a2efe925df8ee3b040b11d40", func := "astrolabe/astrolabelaw11.BiermanOne", spec := "biermanOne", inPlace := ["math/bits.Add64"], named := ["math/bits.divideError", "math/bits.overflowError"], apart := false }
def BiermanOneSaid : Prop := biermanOneRow.holds Try.pinned (OpenSpec.ofChange biermanOneSpec)

/-- ITS FALSE NEIGHBOUR: 'it returns false'. Refute it at one input. -/
def biermanOneWrong : ChangeSpec := { name := "biermanOne", fn := fun _ => fun
  | [d1, d2, d3] => { results := [.lit (.bool false)], args := [d1, d2, d3] }
  | _ => none }
def BiermanOneWrongFalsely : Prop := biermanOneRow.holds Try.pinned (OpenSpec.ofChange biermanOneWrong)

/-- 'astrolabelaw11.BiermanLearns': WHATEVER THE INPUT: true; the input reads as it did. -/
def biermanLearnsSpec : ChangeSpec := { name := "biermanLearns", fn := fun _ => fun
  | [d1, d2, d3] => { results := [.lit (.bool true)], args := [d1, d2, d3] }
  | _ => none }
def biermanLearnsRow : OpenClaim := { program := "ytkfapackpggagaa", sum := "19c7c0163f9b4fa7f5bc67ca5497d682380384a5a2efe925df8ee3b040b11d40", func := "astrolabe/astrolabelaw11.BiermanLearns", spec := "biermanLearns", inPlace := ["math/bits.Add64"], named := ["math/bits.divideError", "math/bits.overflowError"], apart := false }
def BiermanLearnsSaid : Prop := biermanLearnsRow.holds Try.pinned (OpenSpec.ofChange biermanLearnsSpec)

/-- ITS FALSE NEIGHBOUR: 'it returns false'. Refute it at one input. -/
def biermanLearnsWrong : ChangeSpec := { name := "biermanLearns", fn := fun _ => fun
  | [d1, d2, d3] => { results := [.lit (.bool false)], args := [d1, d2, d3] }
  | _ => none }
def BiermanLearnsWrongFalsely : Prop := biermanLearnsRow.holds Try.pinned (OpenSpec.ofChange biermanLearnsWrong)

/-- 'astrolabelaw11.BiermanKnown': WHATEVER THE INPUT: true; the input reads as it did. -/
def biermanKnownSpec : ChangeSpec := { name := "biermanKnown", fn := fun _ => fun
  | [] => { results := [.lit (.bool true)], args := [] }
  | _ => none }
def biermanKnownRow : OpenClaim := { program := "ytkfapackpggagaa", sum := "19c7c0163f9b4fa7f5bc67ca5497d682380384a5a2efe925df8ee3b040b11d40", func := "astrolabe/astrolabelaw11.BiermanKnown", spec := "biermanKnown", inPlace := ["math/bits.Add64"], named := ["math/bits.divideError", "math/bits.overflowError"], apart := false }
def BiermanKnownSaid : Prop := biermanKnownRow.holds Try.pinned (OpenSpec.ofChange biermanKnownSpec)

/-- ITS FALSE NEIGHBOUR: 'it returns false'. Refute it at one input. -/
def biermanKnownWrong : ChangeSpec := { name := "biermanKnown", fn := fun _ => fun
  | [] => { results := [.lit (.bool false)], args := [] }
  | _ => none }
def BiermanKnownWrongFalsely : Prop := biermanKnownRow.holds Try.pinned (OpenSpec.ofChange biermanKnownWrong)

/- THE SECOND FORM. 'bulk': how many values and letters a reading holds, each counted each time it is reached (what is shared counts as often as it is met; a slice's spare places count too). A statement '..UptoSaid' is the law's where the arguments, and the package variables that the reading takes, are together of bulk at most 1048576: NARROWER than '..Said'. Prove '..Said' where nothing that the law and all that it calls make is longer than what came in: it says more and counts as full. Else prove '..UptoSaid'. A law counts once. -/
mutual
def uptoBulk {H : Type} : DataW H → Nat
  | .lit (.string bytes) => bytes.length + 1
  | .lit _ => 1
  | .nil => 1
  | .ptr d => uptoBulk d + 1
  | .slice elems spare => uptoBulkAll elems + uptoBulkAll spare + 1
  | .agg parts => uptoBulkAll parts + 1
  | .iface _ d => uptoBulk d + 1
  | .map entries => uptoBulkEntries entries + 1
  | .held _ => 1
def uptoBulkAll {H : Type} : List (DataW H) → Nat
  | [] => 0
  | d :: r => uptoBulk d + uptoBulkAll r
def uptoBulkEntries {H : Type} : List (Lit × DataW H) → Nat
  | [] => 0
  | x :: r => uptoBulkEntry x + uptoBulkEntries r
def uptoBulkEntry {H : Type} : Lit × DataW H → Nat
  | (.string bytes, d) => bytes.length + uptoBulk d + 1
  | (_, d) => uptoBulk d + 1
 end
def uptoSmall : (H : Type) → List (DataW H) → Bool := fun _ ds => decide (uptoBulkAll ds ≤ 1048576)
def OpenSpec.upto (s : _root_.Go.ChangeSpec) : _root_.Go.OpenSpec := { _root_.Go.OpenSpec.ofChange s with cond := some uptoSmall }

/-- 'astrolabelaw11.BiermanNothing', WHERE WHAT IT READS IS OF BULK AT MOST 1048576: true; the input reads as it did. -/
def biermanNothingUptoRow : OpenClaim := { program := "ytkfapackpggagaa", sum := "19c7c0163f9b4fa7f5bc67ca5497d682380384a5a2efe925df8ee3b040b11d40", func := "astrolabe/astrolabelaw11.BiermanNothing", spec := "biermanNothing", inPlace := ["math/bits.Add64"], named := ["math/bits.divideError", "math/bits.overflowError"], apart := false, narrowed := true }
def BiermanNothingUptoSaid : Prop := biermanNothingUptoRow.holds Try.pinned (OpenSpec.upto biermanNothingSpec)

/-- 'astrolabelaw11.BiermanSign', WHERE WHAT IT READS IS OF BULK AT MOST 1048576: true; the input reads as it did. -/
def biermanSignUptoRow : OpenClaim := { program := "ytkfapackpggagaa", sum := "19c7c0163f9b4fa7f5bc67ca5497d682380384a5a2efe925df8ee3b040b11d40", func := "astrolabe/astrolabelaw11.BiermanSign", spec := "biermanSign", inPlace := ["math/bits.Add64"], named := ["math/bits.divideError", "math/bits.overflowError"], apart := false, narrowed := true }
def BiermanSignUptoSaid : Prop := biermanSignUptoRow.holds Try.pinned (OpenSpec.upto biermanSignSpec)

/-- 'astrolabelaw11.BiermanOne', WHERE WHAT IT READS IS OF BULK AT MOST 1048576: true; the input reads as it did. -/
def biermanOneUptoRow : OpenClaim := { program := "ytkfapackpggagaa", sum := "19c7c0163f9b4fa7f5bc67ca5497d682380384a5a2efe925df8ee3b040b11d40", func := "astrolabe/astrolabelaw11.BiermanOne", spec := "biermanOne", inPlace := ["math/bits.Add64"], named := ["math/bits.divideError", "math/bits.overflowError"], apart := false, narrowed := true }
def BiermanOneUptoSaid : Prop := biermanOneUptoRow.holds Try.pinned (OpenSpec.upto biermanOneSpec)

/-- 'astrolabelaw11.BiermanLearns', WHERE WHAT IT READS IS OF BULK AT MOST 1048576: true; the input reads as it did. -/
def biermanLearnsUptoRow : OpenClaim := { program := "ytkfapackpggagaa", sum := "19c7c0163f9b4fa7f5bc67ca5497d682380384a5a2efe925df8ee3b040b11d40", func := "astrolabe/astrolabelaw11.BiermanLearns", spec := "biermanLearns", inPlace := ["math/bits.Add64"], named := ["math/bits.divideError", "math/bits.overflowError"], apart := false, narrowed := true }
def BiermanLearnsUptoSaid : Prop := biermanLearnsUptoRow.holds Try.pinned (OpenSpec.upto biermanLearnsSpec)

/-- 'astrolabelaw11.BiermanKnown', WHERE WHAT IT READS IS OF BULK AT MOST 1048576: true; the input reads as it did. -/
def biermanKnownUptoRow : OpenClaim := { program := "ytkfapackpggagaa", sum := "19c7c0163f9b4fa7f5bc67ca5497d682380384a5a2efe925df8ee3b040b11d40", func := "astrolabe/astrolabelaw11.BiermanKnown", spec := "biermanKnown", inPlace := ["math/bits.Add64"], named := ["math/bits.divideError", "math/bits.overflowError"], apart := false, narrowed := true }
def BiermanKnownUptoSaid : Prop := biermanKnownUptoRow.holds Try.pinned (OpenSpec.upto biermanKnownSpec)

end Rows
end Go.Proofs.Ytkfapackpggagaa
