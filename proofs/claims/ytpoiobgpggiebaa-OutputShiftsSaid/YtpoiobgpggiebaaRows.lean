/-
  No cell of these rows narrows 'for every input' (looked for: loops, veiled, ifaces, maps, wideKeys, modest, calm, conditions, laid).
  DERIVED. THE GIVEN ROWS OF THIS SEAT. 6 by the template 'for every input the law returns true; each argument reads behind the call as it read before'; 0 by the template 'total and deterministic' (their statements: YtpoiobgpggiebaaTotals.lean).
  GIVEN WITH THE SEED: the statements are not yours to turn. If you find one false, say at which input.
  Laid BY PROGRAM, IN A SANDBOX (cutbox-rows.mjs): the forced cells as the released guide's own fill.sh prints them over the translation 8830fc9b76a17452… (all of the seat's roots in one cut). By AI agents, Wed Nov 11 2026. No macro, syntax, notation, axiom, sorry.
-/
import Derived.Test.YtpoiobgpggiebaaChecked
import GoSem.Claim
import GoSem.ClaimJoined
import GoSem.ClaimMapViews
import Derived.JoinedTies
import Derived.KernelRfl
namespace Go.Proofs.Ytpoiobgpggiebaa
/- THE CELL 'sum', in the pinned program and in every row, IS THE sha256 OF THE DUMP (.gsa) THAT YtpoiobgpggiebaaProg.lean LOADS. Nothing in Lean hashes anything: it is a label: what it is worth is what the hold of that sum in a sandbox is worth. -/
noncomputable def Try.pinned : Pinned := { name := "ytpoiobgpggiebaa", sum := "8830fc9b76a17452858dc0fc2701111fa517fa533a3a4318a0332c2ac87a023a", checked := Try.checked }
namespace Rows
def none {H : Type} : Left H := { results := [], args := [] }

/-- 'astrolabelaw27.OutputKnown': WHATEVER THE INPUT: true; the input reads as it did. -/
def outputKnownSpec : ChangeSpec := { name := "outputKnown", fn := fun _ => fun
  | [] => { results := [.lit (.bool true)], args := [] }
  | _ => none }
def outputKnownRow : OpenClaim := { program := "ytpoiobgpggiebaa", sum := "8830fc9b76a17452858dc0fc2701111fa517fa533a3a4318a0332c2ac87a023a", func := "astrolabe/astrolabelaw27.OutputKnown", spec := "outputKnown", inPlace := ["math/bits.Add64", "math/bits.Sub64"], unfollowed := true, recurses := true, named := ["math/bits.divideError", "math/bits.overflowError"], apart := false }
def OutputKnownSaid : Prop := outputKnownRow.holds Try.pinned (OpenSpec.ofChange outputKnownSpec)

/-- ITS FALSE NEIGHBOUR: 'it returns false'. Refute it at one input. -/
def outputKnownWrong : ChangeSpec := { name := "outputKnown", fn := fun _ => fun
  | [] => { results := [.lit (.bool false)], args := [] }
  | _ => none }
def OutputKnownWrongFalsely : Prop := outputKnownRow.holds Try.pinned (OpenSpec.ofChange outputKnownWrong)

/-- 'astrolabelaw27.OutputShifts': WHATEVER THE INPUT: true; the input reads as it did. -/
def outputShiftsSpec : ChangeSpec := { name := "outputShifts", fn := fun _ => fun
  | [d1, d2, d3, d4] => { results := [.lit (.bool true)], args := [d1, d2, d3, d4] }
  | _ => none }
def outputShiftsRow : OpenClaim := { program := "ytpoiobgpggiebaa", sum := "8830fc9b76a17452858dc0fc2701111fa517fa533a3a4318a0332c2ac87a023a", func := "astrolabe/astrolabelaw27.OutputShifts", spec := "outputShifts", inPlace := ["math/bits.Add64", "math/bits.Sub64"], unfollowed := true, recurses := true, named := ["math/bits.divideError", "math/bits.overflowError"], apart := false }
def OutputShiftsSaid : Prop := outputShiftsRow.holds Try.pinned (OpenSpec.ofChange outputShiftsSpec)

/-- ITS FALSE NEIGHBOUR: 'it returns false'. Refute it at one input. -/
def outputShiftsWrong : ChangeSpec := { name := "outputShifts", fn := fun _ => fun
  | [d1, d2, d3, d4] => { results := [.lit (.bool false)], args := [d1, d2, d3, d4] }
  | _ => none }
def OutputShiftsWrongFalsely : Prop := outputShiftsRow.holds Try.pinned (OpenSpec.ofChange outputShiftsWrong)

/-- 'astrolabelaw27.OutputTimes': WHATEVER THE INPUT: true; the input reads as it did. -/
def outputTimesSpec : ChangeSpec := { name := "outputTimes", fn := fun _ => fun
  | [d1, d2, d3, d4] => { results := [.lit (.bool true)], args := [d1, d2, d3, d4] }
  | _ => none }
def outputTimesRow : OpenClaim := { program := "ytpoiobgpggiebaa", sum := "8830fc9b76a17452858dc0fc2701111fa517fa533a3a4318a0332c2ac87a023a", func := "astrolabe/astrolabelaw27.OutputTimes", spec := "outputTimes", inPlace := ["math/bits.Add64", "math/bits.Sub64"], unfollowed := true, recurses := true, named := ["math/bits.divideError", "math/bits.overflowError"], apart := false }
def OutputTimesSaid : Prop := outputTimesRow.holds Try.pinned (OpenSpec.ofChange outputTimesSpec)

/-- ITS FALSE NEIGHBOUR: 'it returns false'. Refute it at one input. -/
def outputTimesWrong : ChangeSpec := { name := "outputTimes", fn := fun _ => fun
  | [d1, d2, d3, d4] => { results := [.lit (.bool false)], args := [d1, d2, d3, d4] }
  | _ => none }
def OutputTimesWrongFalsely : Prop := outputTimesRow.holds Try.pinned (OpenSpec.ofChange outputTimesWrong)

/-- 'astrolabelaw27.OutputGood': WHATEVER THE INPUT: true; the input reads as it did. -/
def outputGoodSpec : ChangeSpec := { name := "outputGood", fn := fun _ => fun
  | [d1, d2, d3, d4, d5, d6] => { results := [.lit (.bool true)], args := [d1, d2, d3, d4, d5, d6] }
  | _ => none }
def outputGoodRow : OpenClaim := { program := "ytpoiobgpggiebaa", sum := "8830fc9b76a17452858dc0fc2701111fa517fa533a3a4318a0332c2ac87a023a", func := "astrolabe/astrolabelaw27.OutputGood", spec := "outputGood", inPlace := ["math/bits.Add64", "math/bits.Sub64"], unfollowed := true, recurses := true, named := ["math/bits.divideError", "math/bits.overflowError"], apart := false }
def OutputGoodSaid : Prop := outputGoodRow.holds Try.pinned (OpenSpec.ofChange outputGoodSpec)

/-- ITS FALSE NEIGHBOUR: 'it returns false'. Refute it at one input. -/
def outputGoodWrong : ChangeSpec := { name := "outputGood", fn := fun _ => fun
  | [d1, d2, d3, d4, d5, d6] => { results := [.lit (.bool false)], args := [d1, d2, d3, d4, d5, d6] }
  | _ => none }
def OutputGoodWrongFalsely : Prop := outputGoodRow.holds Try.pinned (OpenSpec.ofChange outputGoodWrong)

/-- 'astrolabelaw27.OutputCalm': WHATEVER THE INPUT: true; the input reads as it did. -/
def outputCalmSpec : ChangeSpec := { name := "outputCalm", fn := fun _ => fun
  | [d1, d2, d3, d4, d5] => { results := [.lit (.bool true)], args := [d1, d2, d3, d4, d5] }
  | _ => none }
def outputCalmRow : OpenClaim := { program := "ytpoiobgpggiebaa", sum := "8830fc9b76a17452858dc0fc2701111fa517fa533a3a4318a0332c2ac87a023a", func := "astrolabe/astrolabelaw27.OutputCalm", spec := "outputCalm", inPlace := ["math/bits.Add64", "math/bits.Sub64"], unfollowed := true, recurses := true, named := ["math/bits.divideError", "math/bits.overflowError"], apart := false }
def OutputCalmSaid : Prop := outputCalmRow.holds Try.pinned (OpenSpec.ofChange outputCalmSpec)

/-- ITS FALSE NEIGHBOUR: 'it returns false'. Refute it at one input. -/
def outputCalmWrong : ChangeSpec := { name := "outputCalm", fn := fun _ => fun
  | [d1, d2, d3, d4, d5] => { results := [.lit (.bool false)], args := [d1, d2, d3, d4, d5] }
  | _ => none }
def OutputCalmWrongFalsely : Prop := outputCalmRow.holds Try.pinned (OpenSpec.ofChange outputCalmWrong)

/-- 'astrolabelaw27.OutputNears': WHATEVER THE INPUT: true; the input reads as it did. -/
def outputNearsSpec : ChangeSpec := { name := "outputNears", fn := fun _ => fun
  | [d1, d2, d3, d4] => { results := [.lit (.bool true)], args := [d1, d2, d3, d4] }
  | _ => none }
def outputNearsRow : OpenClaim := { program := "ytpoiobgpggiebaa", sum := "8830fc9b76a17452858dc0fc2701111fa517fa533a3a4318a0332c2ac87a023a", func := "astrolabe/astrolabelaw27.OutputNears", spec := "outputNears", inPlace := ["math/bits.Add64", "math/bits.Sub64"], unfollowed := true, recurses := true, named := ["math/bits.divideError", "math/bits.overflowError"], apart := false }
def OutputNearsSaid : Prop := outputNearsRow.holds Try.pinned (OpenSpec.ofChange outputNearsSpec)

/-- ITS FALSE NEIGHBOUR: 'it returns false'. Refute it at one input. -/
def outputNearsWrong : ChangeSpec := { name := "outputNears", fn := fun _ => fun
  | [d1, d2, d3, d4] => { results := [.lit (.bool false)], args := [d1, d2, d3, d4] }
  | _ => none }
def OutputNearsWrongFalsely : Prop := outputNearsRow.holds Try.pinned (OpenSpec.ofChange outputNearsWrong)

/- THE SECOND FORM. 'bulk': how many values and letters a reading holds, each counted each time it is reached (what is shared counts as often as it is met; a slice's spare places count too). A statement '..UptoSaid' is the law's where the arguments, and the package variables that the reading takes, are together of bulk at most 1048576: NARROWER than '..Said'. Prove '..Said' where nothing that the law and all that it calls make is longer than what came in: it says more and counts as full. Else prove '..UptoSaid'. A law counts once. -/
mutual
def uptoBulk {H : Type} : DataW H → Nat
  | .lit (.string bytes) => bytes.length + 1
  | .lit _ => 1
  | .nil => 1
  | .ptr d => uptoBulk d + 1
  | .slice elems spare => uptoBulkAll elems + uptoBulkAll spare + 1
  | .agg parts => uptoBulkAll parts + 1
  | .iface _ d => uptoBulk d + 1
  | .map entries => uptoBulkEntries entries + 1
  | .held _ => 1
def uptoBulkAll {H : Type} : List (DataW H) → Nat
  | [] => 0
  | d :: r => uptoBulk d + uptoBulkAll r
def uptoBulkEntries {H : Type} : List (Lit × DataW H) → Nat
  | [] => 0
  | x :: r => uptoBulkEntry x + uptoBulkEntries r
def uptoBulkEntry {H : Type} : Lit × DataW H → Nat
  | (.string bytes, d) => bytes.length + uptoBulk d + 1
  | (_, d) => uptoBulk d + 1
 end
def uptoSmall : (H : Type) → List (DataW H) → Bool := fun _ ds => decide (uptoBulkAll ds ≤ 1048576)
def OpenSpec.upto (s : _root_.Go.ChangeSpec) : _root_.Go.OpenSpec := { _root_.Go.OpenSpec.ofChange s with cond := some uptoSmall }

/-- 'astrolabelaw27.OutputKnown', WHERE WHAT IT READS IS OF BULK AT MOST 1048576: true; the input reads as it did. -/
def outputKnownUptoRow : OpenClaim := { program := "ytpoiobgpggiebaa", sum := "8830fc9b76a17452858dc0fc2701111fa517fa533a3a4318a0332c2ac87a023a", func := "astrolabe/astrolabelaw27.OutputKnown", spec := "outputKnown", inPlace := ["math/bits.Add64", "math/bits.Sub64"], unfollowed := true, recurses := true, named := ["math/bits.divideError", "math/bits.overflowError"], apart := false, narrowed := true }
def OutputKnownUptoSaid : Prop := outputKnownUptoRow.holds Try.pinned (OpenSpec.upto outputKnownSpec)

/-- 'astrolabelaw27.OutputShifts', WHERE WHAT IT READS IS OF BULK AT MOST 1048576: true; the input reads as it did. -/
def outputShiftsUptoRow : OpenClaim := { program := "ytpoiobgpggiebaa", sum := "8830fc9b76a17452858dc0fc2701111fa517fa533a3a4318a0332c2ac87a023a", func := "astrolabe/astrolabelaw27.OutputShifts", spec := "outputShifts", inPlace := ["math/bits.Add64", "math/bits.Sub64"], unfollowed := true, recurses := true, named := ["math/bits.divideError", "math/bits.overflowError"], apart := false, narrowed := true }
def OutputShiftsUptoSaid : Prop := outputShiftsUptoRow.holds Try.pinned (OpenSpec.upto outputShiftsSpec)

/-- 'astrolabelaw27.OutputTimes', WHERE WHAT IT READS IS OF BULK AT MOST 1048576: true; the input reads as it did. -/
def outputTimesUptoRow : OpenClaim := { program := "ytpoiobgpggiebaa", sum := "8830fc9b76a17452858dc0fc2701111fa517fa533a3a4318a0332c2ac87a023a", func := "astrolabe/astrolabelaw27.OutputTimes", spec := "outputTimes", inPlace := ["math/bits.Add64", "math/bits.Sub64"], unfollowed := true, recurses := true, named := ["math/bits.divideError", "math/bits.overflowError"], apart := false, narrowed := true }
def OutputTimesUptoSaid : Prop := outputTimesUptoRow.holds Try.pinned (OpenSpec.upto outputTimesSpec)

/-- 'astrolabelaw27.OutputGood', WHERE WHAT IT READS IS OF BULK AT MOST 1048576: true; the input reads as it did. -/
def outputGoodUptoRow : OpenClaim := { program := "ytpoiobgpggiebaa", sum := "8830fc9b76a17452858dc0fc2701111fa517fa533a3a4318a0332c2ac87a023a", func := "astrolabe/astrolabelaw27.OutputGood", spec := "outputGood", inPlace := ["math/bits.Add64", "math/bits.Sub64"], unfollowed := true, recurses := true, named := ["math/bits.divideError", "math/bits.overflowError"], apart := false, narrowed := true }
def OutputGoodUptoSaid : Prop := outputGoodUptoRow.holds Try.pinned (OpenSpec.upto outputGoodSpec)

/-- 'astrolabelaw27.OutputCalm', WHERE WHAT IT READS IS OF BULK AT MOST 1048576: true; the input reads as it did. -/
def outputCalmUptoRow : OpenClaim := { program := "ytpoiobgpggiebaa", sum := "8830fc9b76a17452858dc0fc2701111fa517fa533a3a4318a0332c2ac87a023a", func := "astrolabe/astrolabelaw27.OutputCalm", spec := "outputCalm", inPlace := ["math/bits.Add64", "math/bits.Sub64"], unfollowed := true, recurses := true, named := ["math/bits.divideError", "math/bits.overflowError"], apart := false, narrowed := true }
def OutputCalmUptoSaid : Prop := outputCalmUptoRow.holds Try.pinned (OpenSpec.upto outputCalmSpec)

/-- 'astrolabelaw27.OutputNears', WHERE WHAT IT READS IS OF BULK AT MOST 1048576: true; the input reads as it did. -/
def outputNearsUptoRow : OpenClaim := { program := "ytpoiobgpggiebaa", sum := "8830fc9b76a17452858dc0fc2701111fa517fa533a3a4318a0332c2ac87a023a", func := "astrolabe/astrolabelaw27.OutputNears", spec := "outputNears", inPlace := ["math/bits.Add64", "math/bits.Sub64"], unfollowed := true, recurses := true, named := ["math/bits.divideError", "math/bits.overflowError"], apart := false, narrowed := true }
def OutputNearsUptoSaid : Prop := outputNearsUptoRow.holds Try.pinned (OpenSpec.upto outputNearsSpec)

end Rows
end Go.Proofs.Ytpoiobgpggiebaa
