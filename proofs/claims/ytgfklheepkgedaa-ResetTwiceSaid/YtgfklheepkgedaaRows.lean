/-
  No cell of these rows narrows 'for every input' (looked for: loops, veiled, ifaces, maps, wideKeys, modest, calm, conditions, laid).
  DERIVED. THE GIVEN ROWS OF THIS SEAT. 3 by the template 'for every input the law returns true; each argument reads behind the call as it read before'; 0 by the template 'total and deterministic' (their statements: YtgfklheepkgedaaTotals.lean).
  GIVEN WITH THE SEED: the statements are not yours to turn. If you find one false, say at which input.
  Laid BY PROGRAM, IN A SANDBOX (cutbox-rows.mjs): the forced cells as the released guide's own fill.sh prints them over the translation 0da02acfe0cf0d7f… (all of the seat's roots in one cut). By AI agents, Wed Nov 11 2026. No macro, syntax, notation, axiom, sorry.
-/
import Derived.Test.YtgfklheepkgedaaChecked
import GoSem.Claim
import GoSem.ClaimJoined
import GoSem.ClaimMapViews
import Derived.JoinedTies
import Derived.KernelRfl
namespace Go.Proofs.Ytgfklheepkgedaa
/- THE CELL 'sum', in the pinned program and in every row, IS THE sha256 OF THE DUMP (.gsa) THAT YtgfklheepkgedaaProg.lean LOADS. Nothing in Lean hashes anything: it is a label: what it is worth is what the hold of that sum in a sandbox is worth. -/
noncomputable def Try.pinned : Pinned := { name := "ytgfklheepkgedaa", sum := "0da02acfe0cf0d7f4fa608f190364a6831389619c4e2f2dbda6291042502cf5c", checked := Try.checked }
namespace Rows
def none {H : Type} : Left H := { results := [], args := [] }

/-- 'astrolabelaw26.ResetKnown': WHATEVER THE INPUT: true; the input reads as it did. -/
def resetKnownSpec : ChangeSpec := { name := "resetKnown", fn := fun _ => fun
  | [] => { results := [.lit (.bool true)], args := [] }
  | _ => none }
def resetKnownRow : OpenClaim := { program := "ytgfklheepkgedaa", sum := "0da02acfe0cf0d7f4fa608f190364a6831389619c4e2f2dbda6291042502cf5c", func := "astrolabe/astrolabelaw26.ResetKnown", spec := "resetKnown", inPlace := ["math/bits.Add64", "math/bits.Sub64"], unfollowed := true, recurses := true, named := ["math/bits.divideError", "math/bits.overflowError"], apart := false }
def ResetKnownSaid : Prop := resetKnownRow.holds Try.pinned (OpenSpec.ofChange resetKnownSpec)

/-- ITS FALSE NEIGHBOUR: 'it returns false'. Refute it at one input. -/
def resetKnownWrong : ChangeSpec := { name := "resetKnown", fn := fun _ => fun
  | [] => { results := [.lit (.bool false)], args := [] }
  | _ => none }
def ResetKnownWrongFalsely : Prop := resetKnownRow.holds Try.pinned (OpenSpec.ofChange resetKnownWrong)

/-- 'astrolabelaw26.ResetTells': WHATEVER THE INPUT: true; the input reads as it did. -/
def resetTellsSpec : ChangeSpec := { name := "resetTells", fn := fun _ => fun
  | [d1, d2, d3, d4, d5] => { results := [.lit (.bool true)], args := [d1, d2, d3, d4, d5] }
  | _ => none }
def resetTellsRow : OpenClaim := { program := "ytgfklheepkgedaa", sum := "0da02acfe0cf0d7f4fa608f190364a6831389619c4e2f2dbda6291042502cf5c", func := "astrolabe/astrolabelaw26.ResetTells", spec := "resetTells", inPlace := ["math/bits.Add64", "math/bits.Sub64"], unfollowed := true, recurses := true, named := ["math/bits.divideError", "math/bits.overflowError"], apart := false }
def ResetTellsSaid : Prop := resetTellsRow.holds Try.pinned (OpenSpec.ofChange resetTellsSpec)

/-- ITS FALSE NEIGHBOUR: 'it returns false'. Refute it at one input. -/
def resetTellsWrong : ChangeSpec := { name := "resetTells", fn := fun _ => fun
  | [d1, d2, d3, d4, d5] => { results := [.lit (.bool false)], args := [d1, d2, d3, d4, d5] }
  | _ => none }
def ResetTellsWrongFalsely : Prop := resetTellsRow.holds Try.pinned (OpenSpec.ofChange resetTellsWrong)

/-- 'astrolabelaw26.ResetTwice': WHATEVER THE INPUT: true; the input reads as it did. -/
def resetTwiceSpec : ChangeSpec := { name := "resetTwice", fn := fun _ => fun
  | [d1, d2, d3, d4, d5] => { results := [.lit (.bool true)], args := [d1, d2, d3, d4, d5] }
  | _ => none }
def resetTwiceRow : OpenClaim := { program := "ytgfklheepkgedaa", sum := "0da02acfe0cf0d7f4fa608f190364a6831389619c4e2f2dbda6291042502cf5c", func := "astrolabe/astrolabelaw26.ResetTwice", spec := "resetTwice", inPlace := ["math/bits.Add64", "math/bits.Sub64"], unfollowed := true, recurses := true, named := ["math/bits.divideError", "math/bits.overflowError"], apart := false }
def ResetTwiceSaid : Prop := resetTwiceRow.holds Try.pinned (OpenSpec.ofChange resetTwiceSpec)

/-- ITS FALSE NEIGHBOUR: 'it returns false'. Refute it at one input. -/
def resetTwiceWrong : ChangeSpec := { name := "resetTwice", fn := fun _ => fun
  | [d1, d2, d3, d4, d5] => { results := [.lit (.bool false)], args := [d1, d2, d3, d4, d5] }
  | _ => none }
def ResetTwiceWrongFalsely : Prop := resetTwiceRow.holds Try.pinned (OpenSpec.ofChange resetTwiceWrong)

/- THE SECOND FORM. 'bulk': how many values and letters a reading holds, each counted each time it is reached (what is shared counts as often as it is met; a slice's spare places count too). A statement '..UptoSaid' is the law's where the arguments, and the package variables that the reading takes, are together of bulk at most 1048576: NARROWER than '..Said'. Prove '..Said' where nothing that the law and all that it calls make is longer than what came in: it says more and counts as full. Else prove '..UptoSaid'. A law counts once. -/
mutual
def uptoBulk {H : Type} : DataW H → Nat
  | .lit (.string bytes) => bytes.length + 1
  | .lit _ => 1
  | .nil => 1
  | .ptr d => uptoBulk d + 1
  | .slice elems spare => uptoBulkAll elems + uptoBulkAll spare + 1
  | .agg parts => uptoBulkAll parts + 1
  | .iface _ d => uptoBulk d + 1
  | .map entries => uptoBulkEntries entries + 1
  | .held _ => 1
def uptoBulkAll {H : Type} : List (DataW H) → Nat
  | [] => 0
  | d :: r => uptoBulk d + uptoBulkAll r
def uptoBulkEntries {H : Type} : List (Lit × DataW H) → Nat
  | [] => 0
  | x :: r => uptoBulkEntry x + uptoBulkEntries r
def uptoBulkEntry {H : Type} : Lit × DataW H → Nat
  | (.string bytes, d) => bytes.length + uptoBulk d + 1
  | (_, d) => uptoBulk d + 1
 end
def uptoSmall : (H : Type) → List (DataW H) → Bool := fun _ ds => decide (uptoBulkAll ds ≤ 1048576)
def OpenSpec.upto (s : _root_.Go.ChangeSpec) : _root_.Go.OpenSpec := { _root_.Go.OpenSpec.ofChange s with cond := some uptoSmall }

/-- 'astrolabelaw26.ResetKnown', WHERE WHAT IT READS IS OF BULK AT MOST 1048576: true; the input reads as it did. -/
def resetKnownUptoRow : OpenClaim := { program := "ytgfklheepkgedaa", sum := "0da02acfe0cf0d7f4fa608f190364a6831389619c4e2f2dbda6291042502cf5c", func := "astrolabe/astrolabelaw26.ResetKnown", spec := "resetKnown", inPlace := ["math/bits.Add64", "math/bits.Sub64"], unfollowed := true, recurses := true, named := ["math/bits.divideError", "math/bits.overflowError"], apart := false, narrowed := true }
def ResetKnownUptoSaid : Prop := resetKnownUptoRow.holds Try.pinned (OpenSpec.upto resetKnownSpec)

/-- 'astrolabelaw26.ResetTells', WHERE WHAT IT READS IS OF BULK AT MOST 1048576: true; the input reads as it did. -/
def resetTellsUptoRow : OpenClaim := { program := "ytgfklheepkgedaa", sum := "0da02acfe0cf0d7f4fa608f190364a6831389619c4e2f2dbda6291042502cf5c", func := "astrolabe/astrolabelaw26.ResetTells", spec := "resetTells", inPlace := ["math/bits.Add64", "math/bits.Sub64"], unfollowed := true, recurses := true, named := ["math/bits.divideError", "math/bits.overflowError"], apart := false, narrowed := true }
def ResetTellsUptoSaid : Prop := resetTellsUptoRow.holds Try.pinned (OpenSpec.upto resetTellsSpec)

/-- 'astrolabelaw26.ResetTwice', WHERE WHAT IT READS IS OF BULK AT MOST 1048576: true; the input reads as it did. -/
def resetTwiceUptoRow : OpenClaim := { program := "ytgfklheepkgedaa", sum := "0da02acfe0cf0d7f4fa608f190364a6831389619c4e2f2dbda6291042502cf5c", func := "astrolabe/astrolabelaw26.ResetTwice", spec := "resetTwice", inPlace := ["math/bits.Add64", "math/bits.Sub64"], unfollowed := true, recurses := true, named := ["math/bits.divideError", "math/bits.overflowError"], apart := false, narrowed := true }
def ResetTwiceUptoSaid : Prop := resetTwiceUptoRow.holds Try.pinned (OpenSpec.upto resetTwiceSpec)

end Rows
end Go.Proofs.Ytgfklheepkgedaa
