/-
  No cell of these rows narrows 'for every input' (looked for: loops, veiled, ifaces, maps, wideKeys, modest, calm, conditions, laid).
  DERIVED. THE GIVEN ROWS OF THIS SEAT. 5 by the template 'for every input the law returns true; each argument reads behind the call as it read before'; 0 by the template 'total and deterministic' (their statements: YtanmddenleffaaaTotals.lean).
  GIVEN WITH THE SEED: the statements are not yours to turn. If you find one false, say at which input.
  Laid BY PROGRAM, IN A SANDBOX (cutbox-rows.mjs): the forced cells as the released guide's own fill.sh prints them over the translation 72d201f8eda4c639… (all of the seat's roots in one cut). By AI agents, Wed Nov 11 2026. No macro, syntax, notation, axiom, sorry.
-/
import Derived.Test.YtanmddenleffaaaChecked
import GoSem.Claim
import GoSem.ClaimJoined
import GoSem.ClaimMapViews
import Derived.JoinedTies
import Derived.KernelRfl
namespace Go.Proofs.Ytanmddenleffaaa
/- THE CELL 'sum', in the pinned program and in every row, IS THE sha256 OF THE DUMP (.gsa) THAT YtanmddenleffaaaProg.lean LOADS. Nothing in Lean hashes anything: it is a label: what it is worth is what the hold of that sum in a sandbox is worth. -/
noncomputable def Try.pinned : Pinned := { name := "ytanmddenleffaaa", sum := "72d201f8eda4c63944900a4382cfc2ca7affe12ffdbac908eb5ce99053c3ad9a", checked := Try.checked }
namespace Rows
def none {H : Type} : Left H := { results := [], args := [] }

/-- 'astrolabelaw17.JacKnown': WHATEVER THE INPUT: true; the input reads as it did. -/
def jacKnownSpec : ChangeSpec := { name := "jacKnown", fn := fun _ => fun
  | [] => { results := [.lit (.bool true)], args := [] }
  | _ => none }
def jacKnownRow : OpenClaim := { program := "ytanmddenleffaaa", sum := "72d201f8eda4c63944900a4382cfc2ca7affe12ffdbac908eb5ce99053c3ad9a", func := "astrolabe/astrolabelaw17.JacKnown", spec := "jacKnown", inPlace := ["math/bits.Add64", "math/bits.Sub64"], unfollowed := true, recurses := true, named := ["math/bits.divideError", "math/bits.overflowError"], apart := false }
def JacKnownSaid : Prop := jacKnownRow.holds Try.pinned (OpenSpec.ofChange jacKnownSpec)

/-- ITS FALSE NEIGHBOUR: 'it returns false'. Refute it at one input. -/
def jacKnownWrong : ChangeSpec := { name := "jacKnown", fn := fun _ => fun
  | [] => { results := [.lit (.bool false)], args := [] }
  | _ => none }
def JacKnownWrongFalsely : Prop := jacKnownRow.holds Try.pinned (OpenSpec.ofChange jacKnownWrong)

/-- 'astrolabelaw17.JacStill': WHATEVER THE INPUT: true; the input reads as it did. -/
def jacStillSpec : ChangeSpec := { name := "jacStill", fn := fun _ => fun
  | [d1, d2, d3, d4] => { results := [.lit (.bool true)], args := [d1, d2, d3, d4] }
  | _ => none }
def jacStillRow : OpenClaim := { program := "ytanmddenleffaaa", sum := "72d201f8eda4c63944900a4382cfc2ca7affe12ffdbac908eb5ce99053c3ad9a", func := "astrolabe/astrolabelaw17.JacStill", spec := "jacStill", inPlace := ["math/bits.Add64", "math/bits.Sub64"], unfollowed := true, recurses := true, named := ["math/bits.divideError", "math/bits.overflowError"], apart := false }
def JacStillSaid : Prop := jacStillRow.holds Try.pinned (OpenSpec.ofChange jacStillSpec)

/-- ITS FALSE NEIGHBOUR: 'it returns false'. Refute it at one input. -/
def jacStillWrong : ChangeSpec := { name := "jacStill", fn := fun _ => fun
  | [d1, d2, d3, d4] => { results := [.lit (.bool false)], args := [d1, d2, d3, d4] }
  | _ => none }
def JacStillWrongFalsely : Prop := jacStillRow.holds Try.pinned (OpenSpec.ofChange jacStillWrong)

/-- 'astrolabelaw17.JacRows': WHATEVER THE INPUT: true; the input reads as it did. -/
def jacRowsSpec : ChangeSpec := { name := "jacRows", fn := fun _ => fun
  | [d1, d2] => { results := [.lit (.bool true)], args := [d1, d2] }
  | _ => none }
def jacRowsRow : OpenClaim := { program := "ytanmddenleffaaa", sum := "72d201f8eda4c63944900a4382cfc2ca7affe12ffdbac908eb5ce99053c3ad9a", func := "astrolabe/astrolabelaw17.JacRows", spec := "jacRows", inPlace := ["math/bits.Add64", "math/bits.Sub64"], unfollowed := true, recurses := true, named := ["math/bits.divideError", "math/bits.overflowError"], apart := false }
def JacRowsSaid : Prop := jacRowsRow.holds Try.pinned (OpenSpec.ofChange jacRowsSpec)

/-- ITS FALSE NEIGHBOUR: 'it returns false'. Refute it at one input. -/
def jacRowsWrong : ChangeSpec := { name := "jacRows", fn := fun _ => fun
  | [d1, d2] => { results := [.lit (.bool false)], args := [d1, d2] }
  | _ => none }
def JacRowsWrongFalsely : Prop := jacRowsRow.holds Try.pinned (OpenSpec.ofChange jacRowsWrong)

/-- 'astrolabelaw17.JacTurned': WHATEVER THE INPUT: true; the input reads as it did. -/
def jacTurnedSpec : ChangeSpec := { name := "jacTurned", fn := fun _ => fun
  | [d1, d2, d3] => { results := [.lit (.bool true)], args := [d1, d2, d3] }
  | _ => none }
def jacTurnedRow : OpenClaim := { program := "ytanmddenleffaaa", sum := "72d201f8eda4c63944900a4382cfc2ca7affe12ffdbac908eb5ce99053c3ad9a", func := "astrolabe/astrolabelaw17.JacTurned", spec := "jacTurned", inPlace := ["math/bits.Add64", "math/bits.Sub64"], unfollowed := true, recurses := true, named := ["math/bits.divideError", "math/bits.overflowError"], apart := false }
def JacTurnedSaid : Prop := jacTurnedRow.holds Try.pinned (OpenSpec.ofChange jacTurnedSpec)

/-- ITS FALSE NEIGHBOUR: 'it returns false'. Refute it at one input. -/
def jacTurnedWrong : ChangeSpec := { name := "jacTurned", fn := fun _ => fun
  | [d1, d2, d3] => { results := [.lit (.bool false)], args := [d1, d2, d3] }
  | _ => none }
def JacTurnedWrongFalsely : Prop := jacTurnedRow.holds Try.pinned (OpenSpec.ofChange jacTurnedWrong)

/-- 'astrolabelaw17.JacMoves': WHATEVER THE INPUT: true; the input reads as it did. -/
def jacMovesSpec : ChangeSpec := { name := "jacMoves", fn := fun _ => fun
  | [d1, d2, d3, d4] => { results := [.lit (.bool true)], args := [d1, d2, d3, d4] }
  | _ => none }
def jacMovesRow : OpenClaim := { program := "ytanmddenleffaaa", sum := "72d201f8eda4c63944900a4382cfc2ca7affe12ffdbac908eb5ce99053c3ad9a", func := "astrolabe/astrolabelaw17.JacMoves", spec := "jacMoves", inPlace := ["math/bits.Add64", "math/bits.Sub64"], unfollowed := true, recurses := true, named := ["math/bits.divideError", "math/bits.overflowError"], apart := false }
def JacMovesSaid : Prop := jacMovesRow.holds Try.pinned (OpenSpec.ofChange jacMovesSpec)

/-- ITS FALSE NEIGHBOUR: 'it returns false'. Refute it at one input. -/
def jacMovesWrong : ChangeSpec := { name := "jacMoves", fn := fun _ => fun
  | [d1, d2, d3, d4] => { results := [.lit (.bool false)], args := [d1, d2, d3, d4] }
  | _ => none }
def JacMovesWrongFalsely : Prop := jacMovesRow.holds Try.pinned (OpenSpec.ofChange jacMovesWrong)

/- THE SECOND FORM. 'bulk': how many values and letters a reading holds, each counted each time it is reached (what is shared counts as often as it is met; a slice's spare places count too). A statement '..UptoSaid' is the law's where the arguments, and the package variables that the reading takes, are together of bulk at most 1048576: NARROWER than '..Said'. Prove '..Said' where nothing that the law and all that it calls make is longer than what came in: it says more and counts as full. Else prove '..UptoSaid'. A law counts once. -/
mutual
def uptoBulk {H : Type} : DataW H → Nat
  | .lit (.string bytes) => bytes.length + 1
  | .lit _ => 1
  | .nil => 1
  | .ptr d => uptoBulk d + 1
  | .slice elems spare => uptoBulkAll elems + uptoBulkAll spare + 1
  | .agg parts => uptoBulkAll parts + 1
  | .iface _ d => uptoBulk d + 1
  | .map entries => uptoBulkEntries entries + 1
  | .held _ => 1
def uptoBulkAll {H : Type} : List (DataW H) → Nat
  | [] => 0
  | d :: r => uptoBulk d + uptoBulkAll r
def uptoBulkEntries {H : Type} : List (Lit × DataW H) → Nat
  | [] => 0
  | x :: r => uptoBulkEntry x + uptoBulkEntries r
def uptoBulkEntry {H : Type} : Lit × DataW H → Nat
  | (.string bytes, d) => bytes.length + uptoBulk d + 1
  | (_, d) => uptoBulk d + 1
 end
def uptoSmall : (H : Type) → List (DataW H) → Bool := fun _ ds => decide (uptoBulkAll ds ≤ 1048576)
def OpenSpec.upto (s : _root_.Go.ChangeSpec) : _root_.Go.OpenSpec := { _root_.Go.OpenSpec.ofChange s with cond := some uptoSmall }

/-- 'astrolabelaw17.JacKnown', WHERE WHAT IT READS IS OF BULK AT MOST 1048576: true; the input reads as it did. -/
def jacKnownUptoRow : OpenClaim := { program := "ytanmddenleffaaa", sum := "72d201f8eda4c63944900a4382cfc2ca7affe12ffdbac908eb5ce99053c3ad9a", func := "astrolabe/astrolabelaw17.JacKnown", spec := "jacKnown", inPlace := ["math/bits.Add64", "math/bits.Sub64"], unfollowed := true, recurses := true, named := ["math/bits.divideError", "math/bits.overflowError"], apart := false, narrowed := true }
def JacKnownUptoSaid : Prop := jacKnownUptoRow.holds Try.pinned (OpenSpec.upto jacKnownSpec)

/-- 'astrolabelaw17.JacStill', WHERE WHAT IT READS IS OF BULK AT MOST 1048576: true; the input reads as it did. -/
def jacStillUptoRow : OpenClaim := { program := "ytanmddenleffaaa", sum := "72d201f8eda4c63944900a4382cfc2ca7affe12ffdbac908eb5ce99053c3ad9a", func := "astrolabe/astrolabelaw17.JacStill", spec := "jacStill", inPlace := ["math/bits.Add64", "math/bits.Sub64"], unfollowed := true, recurses := true, named := ["math/bits.divideError", "math/bits.overflowError"], apart := false, narrowed := true }
def JacStillUptoSaid : Prop := jacStillUptoRow.holds Try.pinned (OpenSpec.upto jacStillSpec)

/-- 'astrolabelaw17.JacRows', WHERE WHAT IT READS IS OF BULK AT MOST 1048576: true; the input reads as it did. -/
def jacRowsUptoRow : OpenClaim := { program := "ytanmddenleffaaa", sum := "72d201f8eda4c63944900a4382cfc2ca7affe12ffdbac908eb5ce99053c3ad9a", func := "astrolabe/astrolabelaw17.JacRows", spec := "jacRows", inPlace := ["math/bits.Add64", "math/bits.Sub64"], unfollowed := true, recurses := true, named := ["math/bits.divideError", "math/bits.overflowError"], apart := false, narrowed := true }
def JacRowsUptoSaid : Prop := jacRowsUptoRow.holds Try.pinned (OpenSpec.upto jacRowsSpec)

/-- 'astrolabelaw17.JacTurned', WHERE WHAT IT READS IS OF BULK AT MOST 1048576: true; the input reads as it did. -/
def jacTurnedUptoRow : OpenClaim := { program := "ytanmddenleffaaa", sum := "72d201f8eda4c63944900a4382cfc2ca7affe12ffdbac908eb5ce99053c3ad9a", func := "astrolabe/astrolabelaw17.JacTurned", spec := "jacTurned", inPlace := ["math/bits.Add64", "math/bits.Sub64"], unfollowed := true, recurses := true, named := ["math/bits.divideError", "math/bits.overflowError"], apart := false, narrowed := true }
def JacTurnedUptoSaid : Prop := jacTurnedUptoRow.holds Try.pinned (OpenSpec.upto jacTurnedSpec)

/-- 'astrolabelaw17.JacMoves', WHERE WHAT IT READS IS OF BULK AT MOST 1048576: true; the input reads as it did. -/
def jacMovesUptoRow : OpenClaim := { program := "ytanmddenleffaaa", sum := "72d201f8eda4c63944900a4382cfc2ca7affe12ffdbac908eb5ce99053c3ad9a", func := "astrolabe/astrolabelaw17.JacMoves", spec := "jacMoves", inPlace := ["math/bits.Add64", "math/bits.Sub64"], unfollowed := true, recurses := true, named := ["math/bits.divideError", "math/bits.overflowError"], apart := false, narrowed := true }
def JacMovesUptoSaid : Prop := jacMovesUptoRow.holds Try.pinned (OpenSpec.upto jacMovesSpec)

end Rows
end Go.Proofs.Ytanmddenleffaaa
