/-
  No cell of these rows narrows 'for every input' (looked for: loops, veiled, ifaces, maps, wideKeys, modest, calm, conditions, laid).
  DERIVED. THE GIVEN ROWS OF THIS SEAT. 6 by the template 'for every input the law returns true; each argument reads behind the call as it read before'; 0 by the template 'total and deterministic' (their statements: YtchholofnccbmaaTotals.lean).
  GIVEN WITH THE SEED: the statements are not yours to turn. If you find one false, say at which input.
  Laid BY PROGRAM, IN A SANDBOX (cutbox-rows.mjs): the forced cells as the released guide's own fill.sh prints them over the translation 3179e0c24aa53250… (all of the seat's roots in one cut). By AI agents, Wed Nov 11 2026. No macro, syntax, notation, axiom, sorry.
-/
import Derived.Test.YtchholofnccbmaaChecked
import GoSem.Claim
import GoSem.ClaimJoined
import GoSem.ClaimMapViews
import Derived.JoinedTies
import Derived.KernelRfl
namespace Go.Proofs.Ytchholofnccbmaa
/- THE CELL 'sum', in the pinned program and in every row, IS THE sha256 OF THE DUMP (.gsa) THAT YtchholofnccbmaaProg.lean LOADS. Nothing in Lean hashes anything: it is a label: what it is worth is what the hold of that sum in a sandbox is worth. -/
noncomputable def Try.pinned : Pinned := { name := "ytchholofnccbmaa", sum := "3179e0c24aa53250431dc88d45c9975aa1f43dfb1e83c4610925aa7e89fe9865", checked := Try.checked }
namespace Rows
def none {H : Type} : Left H := { results := [], args := [] }

/-- 'astrolabelaw18.FuseKnown': WHATEVER THE INPUT: true; the input reads as it did. -/
def fuseKnownSpec : ChangeSpec := { name := "fuseKnown", fn := fun _ => fun
  | [] => { results := [.lit (.bool true)], args := [] }
  | _ => none }
def fuseKnownRow : OpenClaim := { program := "ytchholofnccbmaa", sum := "3179e0c24aa53250431dc88d45c9975aa1f43dfb1e83c4610925aa7e89fe9865", func := "astrolabe/astrolabelaw18.FuseKnown", spec := "fuseKnown", inPlace := ["math/bits.Add64", "math/bits.Sub64"], unfollowed := true, recurses := true, named := ["math/bits.divideError", "math/bits.overflowError"], apart := false }
def FuseKnownSaid : Prop := fuseKnownRow.holds Try.pinned (OpenSpec.ofChange fuseKnownSpec)

/-- ITS FALSE NEIGHBOUR: 'it returns false'. Refute it at one input. -/
def fuseKnownWrong : ChangeSpec := { name := "fuseKnown", fn := fun _ => fun
  | [] => { results := [.lit (.bool false)], args := [] }
  | _ => none }
def FuseKnownWrongFalsely : Prop := fuseKnownRow.holds Try.pinned (OpenSpec.ofChange fuseKnownWrong)

/-- 'astrolabelaw18.FuseRises': WHATEVER THE INPUT: true; the input reads as it did. -/
def fuseRisesSpec : ChangeSpec := { name := "fuseRises", fn := fun _ => fun
  | [d1, d2, d3, d4, d5, d6] => { results := [.lit (.bool true)], args := [d1, d2, d3, d4, d5, d6] }
  | _ => none }
def fuseRisesRow : OpenClaim := { program := "ytchholofnccbmaa", sum := "3179e0c24aa53250431dc88d45c9975aa1f43dfb1e83c4610925aa7e89fe9865", func := "astrolabe/astrolabelaw18.FuseRises", spec := "fuseRises", inPlace := ["math/bits.Add64", "math/bits.Sub64"], unfollowed := true, recurses := true, named := ["math/bits.divideError", "math/bits.overflowError"], apart := false }
def FuseRisesSaid : Prop := fuseRisesRow.holds Try.pinned (OpenSpec.ofChange fuseRisesSpec)

/-- ITS FALSE NEIGHBOUR: 'it returns false'. Refute it at one input. -/
def fuseRisesWrong : ChangeSpec := { name := "fuseRises", fn := fun _ => fun
  | [d1, d2, d3, d4, d5, d6] => { results := [.lit (.bool false)], args := [d1, d2, d3, d4, d5, d6] }
  | _ => none }
def FuseRisesWrongFalsely : Prop := fuseRisesRow.holds Try.pinned (OpenSpec.ofChange fuseRisesWrong)

/-- 'astrolabelaw18.FuseTwice': WHATEVER THE INPUT: true; the input reads as it did. -/
def fuseTwiceSpec : ChangeSpec := { name := "fuseTwice", fn := fun _ => fun
  | [d1, d2, d3, d4, d5] => { results := [.lit (.bool true)], args := [d1, d2, d3, d4, d5] }
  | _ => none }
def fuseTwiceRow : OpenClaim := { program := "ytchholofnccbmaa", sum := "3179e0c24aa53250431dc88d45c9975aa1f43dfb1e83c4610925aa7e89fe9865", func := "astrolabe/astrolabelaw18.FuseTwice", spec := "fuseTwice", inPlace := ["math/bits.Add64", "math/bits.Sub64"], unfollowed := true, recurses := true, named := ["math/bits.divideError", "math/bits.overflowError"], apart := false }
def FuseTwiceSaid : Prop := fuseTwiceRow.holds Try.pinned (OpenSpec.ofChange fuseTwiceSpec)

/-- ITS FALSE NEIGHBOUR: 'it returns false'. Refute it at one input. -/
def fuseTwiceWrong : ChangeSpec := { name := "fuseTwice", fn := fun _ => fun
  | [d1, d2, d3, d4, d5] => { results := [.lit (.bool false)], args := [d1, d2, d3, d4, d5] }
  | _ => none }
def FuseTwiceWrongFalsely : Prop := fuseTwiceRow.holds Try.pinned (OpenSpec.ofChange fuseTwiceWrong)

/-- 'astrolabelaw18.FuseGood': WHATEVER THE INPUT: true; the input reads as it did. -/
def fuseGoodSpec : ChangeSpec := { name := "fuseGood", fn := fun _ => fun
  | [d1, d2, d3] => { results := [.lit (.bool true)], args := [d1, d2, d3] }
  | _ => none }
def fuseGoodRow : OpenClaim := { program := "ytchholofnccbmaa", sum := "3179e0c24aa53250431dc88d45c9975aa1f43dfb1e83c4610925aa7e89fe9865", func := "astrolabe/astrolabelaw18.FuseGood", spec := "fuseGood", inPlace := ["math/bits.Add64", "math/bits.Sub64"], unfollowed := true, recurses := true, named := ["math/bits.divideError", "math/bits.overflowError"], apart := false }
def FuseGoodSaid : Prop := fuseGoodRow.holds Try.pinned (OpenSpec.ofChange fuseGoodSpec)

/-- ITS FALSE NEIGHBOUR: 'it returns false'. Refute it at one input. -/
def fuseGoodWrong : ChangeSpec := { name := "fuseGood", fn := fun _ => fun
  | [d1, d2, d3] => { results := [.lit (.bool false)], args := [d1, d2, d3] }
  | _ => none }
def FuseGoodWrongFalsely : Prop := fuseGoodRow.holds Try.pinned (OpenSpec.ofChange fuseGoodWrong)

/-- 'astrolabelaw18.FuseMoves': WHATEVER THE INPUT: true; the input reads as it did. -/
def fuseMovesSpec : ChangeSpec := { name := "fuseMoves", fn := fun _ => fun
  | [d1, d2, d3, d4] => { results := [.lit (.bool true)], args := [d1, d2, d3, d4] }
  | _ => none }
def fuseMovesRow : OpenClaim := { program := "ytchholofnccbmaa", sum := "3179e0c24aa53250431dc88d45c9975aa1f43dfb1e83c4610925aa7e89fe9865", func := "astrolabe/astrolabelaw18.FuseMoves", spec := "fuseMoves", inPlace := ["math/bits.Add64", "math/bits.Sub64"], unfollowed := true, recurses := true, named := ["math/bits.divideError", "math/bits.overflowError"], apart := false }
def FuseMovesSaid : Prop := fuseMovesRow.holds Try.pinned (OpenSpec.ofChange fuseMovesSpec)

/-- ITS FALSE NEIGHBOUR: 'it returns false'. Refute it at one input. -/
def fuseMovesWrong : ChangeSpec := { name := "fuseMoves", fn := fun _ => fun
  | [d1, d2, d3, d4] => { results := [.lit (.bool false)], args := [d1, d2, d3, d4] }
  | _ => none }
def FuseMovesWrongFalsely : Prop := fuseMovesRow.holds Try.pinned (OpenSpec.ofChange fuseMovesWrong)

/-- 'astrolabelaw18.FuseMany': WHATEVER THE INPUT: true; the input reads as it did. -/
def fuseManySpec : ChangeSpec := { name := "fuseMany", fn := fun _ => fun
  | [d1, d2, d3] => { results := [.lit (.bool true)], args := [d1, d2, d3] }
  | _ => none }
def fuseManyRow : OpenClaim := { program := "ytchholofnccbmaa", sum := "3179e0c24aa53250431dc88d45c9975aa1f43dfb1e83c4610925aa7e89fe9865", func := "astrolabe/astrolabelaw18.FuseMany", spec := "fuseMany", inPlace := ["math/bits.Add64", "math/bits.Sub64"], unfollowed := true, recurses := true, named := ["math/bits.divideError", "math/bits.overflowError"], apart := false }
def FuseManySaid : Prop := fuseManyRow.holds Try.pinned (OpenSpec.ofChange fuseManySpec)

/-- ITS FALSE NEIGHBOUR: 'it returns false'. Refute it at one input. -/
def fuseManyWrong : ChangeSpec := { name := "fuseMany", fn := fun _ => fun
  | [d1, d2, d3] => { results := [.lit (.bool false)], args := [d1, d2, d3] }
  | _ => none }
def FuseManyWrongFalsely : Prop := fuseManyRow.holds Try.pinned (OpenSpec.ofChange fuseManyWrong)

/- THE SECOND FORM. 'bulk': how many values and letters a reading holds, each counted each time it is reached (what is shared counts as often as it is met; a slice's spare places count too). A statement '..UptoSaid' is the law's where the arguments, and the package variables that the reading takes, are together of bulk at most 1048576: NARROWER than '..Said'. Prove '..Said' where nothing that the law and all that it calls make is longer than what came in: it says more and counts as full. Else prove '..UptoSaid'. A law counts once. -/
mutual
def uptoBulk {H : Type} : DataW H → Nat
  | .lit (.string bytes) => bytes.length + 1
  | .lit _ => 1
  | .nil => 1
  | .ptr d => uptoBulk d + 1
  | .slice elems spare => uptoBulkAll elems + uptoBulkAll spare + 1
  | .agg parts => uptoBulkAll parts + 1
  | .iface _ d => uptoBulk d + 1
  | .map entries => uptoBulkEntries entries + 1
  | .held _ => 1
def uptoBulkAll {H : Type} : List (DataW H) → Nat
  | [] => 0
  | d :: r => uptoBulk d + uptoBulkAll r
def uptoBulkEntries {H : Type} : List (Lit × DataW H) → Nat
  | [] => 0
  | x :: r => uptoBulkEntry x + uptoBulkEntries r
def uptoBulkEntry {H : Type} : Lit × DataW H → Nat
  | (.string bytes, d) => bytes.length + uptoBulk d + 1
  | (_, d) => uptoBulk d + 1
 end
def uptoSmall : (H : Type) → List (DataW H) → Bool := fun _ ds => decide (uptoBulkAll ds ≤ 1048576)
def OpenSpec.upto (s : _root_.Go.ChangeSpec) : _root_.Go.OpenSpec := { _root_.Go.OpenSpec.ofChange s with cond := some uptoSmall }

/-- 'astrolabelaw18.FuseKnown', WHERE WHAT IT READS IS OF BULK AT MOST 1048576: true; the input reads as it did. -/
def fuseKnownUptoRow : OpenClaim := { program := "ytchholofnccbmaa", sum := "3179e0c24aa53250431dc88d45c9975aa1f43dfb1e83c4610925aa7e89fe9865", func := "astrolabe/astrolabelaw18.FuseKnown", spec := "fuseKnown", inPlace := ["math/bits.Add64", "math/bits.Sub64"], unfollowed := true, recurses := true, named := ["math/bits.divideError", "math/bits.overflowError"], apart := false, narrowed := true }
def FuseKnownUptoSaid : Prop := fuseKnownUptoRow.holds Try.pinned (OpenSpec.upto fuseKnownSpec)

/-- 'astrolabelaw18.FuseRises', WHERE WHAT IT READS IS OF BULK AT MOST 1048576: true; the input reads as it did. -/
def fuseRisesUptoRow : OpenClaim := { program := "ytchholofnccbmaa", sum := "3179e0c24aa53250431dc88d45c9975aa1f43dfb1e83c4610925aa7e89fe9865", func := "astrolabe/astrolabelaw18.FuseRises", spec := "fuseRises", inPlace := ["math/bits.Add64", "math/bits.Sub64"], unfollowed := true, recurses := true, named := ["math/bits.divideError", "math/bits.overflowError"], apart := false, narrowed := true }
def FuseRisesUptoSaid : Prop := fuseRisesUptoRow.holds Try.pinned (OpenSpec.upto fuseRisesSpec)

/-- 'astrolabelaw18.FuseTwice', WHERE WHAT IT READS IS OF BULK AT MOST 1048576: true; the input reads as it did. -/
def fuseTwiceUptoRow : OpenClaim := { program := "ytchholofnccbmaa", sum := "3179e0c24aa53250431dc88d45c9975aa1f43dfb1e83c4610925aa7e89fe9865", func := "astrolabe/astrolabelaw18.FuseTwice", spec := "fuseTwice", inPlace := ["math/bits.Add64", "math/bits.Sub64"], unfollowed := true, recurses := true, named := ["math/bits.divideError", "math/bits.overflowError"], apart := false, narrowed := true }
def FuseTwiceUptoSaid : Prop := fuseTwiceUptoRow.holds Try.pinned (OpenSpec.upto fuseTwiceSpec)

/-- 'astrolabelaw18.FuseGood', WHERE WHAT IT READS IS OF BULK AT MOST 1048576: true; the input reads as it did. -/
def fuseGoodUptoRow : OpenClaim := { program := "ytchholofnccbmaa", sum := "3179e0c24aa53250431dc88d45c9975aa1f43dfb1e83c4610925aa7e89fe9865", func := "astrolabe/astrolabelaw18.FuseGood", spec := "fuseGood", inPlace := ["math/bits.Add64", "math/bits.Sub64"], unfollowed := true, recurses := true, named := ["math/bits.divideError", "math/bits.overflowError"], apart := false, narrowed := true }
def FuseGoodUptoSaid : Prop := fuseGoodUptoRow.holds Try.pinned (OpenSpec.upto fuseGoodSpec)

/-- 'astrolabelaw18.FuseMoves', WHERE WHAT IT READS IS OF BULK AT MOST 1048576: true; the input reads as it did. -/
def fuseMovesUptoRow : OpenClaim := { program := "ytchholofnccbmaa", sum := "3179e0c24aa53250431dc88d45c9975aa1f43dfb1e83c4610925aa7e89fe9865", func := "astrolabe/astrolabelaw18.FuseMoves", spec := "fuseMoves", inPlace := ["math/bits.Add64", "math/bits.Sub64"], unfollowed := true, recurses := true, named := ["math/bits.divideError", "math/bits.overflowError"], apart := false, narrowed := true }
def FuseMovesUptoSaid : Prop := fuseMovesUptoRow.holds Try.pinned (OpenSpec.upto fuseMovesSpec)

/-- 'astrolabelaw18.FuseMany', WHERE WHAT IT READS IS OF BULK AT MOST 1048576: true; the input reads as it did. -/
def fuseManyUptoRow : OpenClaim := { program := "ytchholofnccbmaa", sum := "3179e0c24aa53250431dc88d45c9975aa1f43dfb1e83c4610925aa7e89fe9865", func := "astrolabe/astrolabelaw18.FuseMany", spec := "fuseMany", inPlace := ["math/bits.Add64", "math/bits.Sub64"], unfollowed := true, recurses := true, named := ["math/bits.divideError", "math/bits.overflowError"], apart := false, narrowed := true }
def FuseManyUptoSaid : Prop := fuseManyUptoRow.holds Try.pinned (OpenSpec.upto fuseManySpec)

end Rows
end Go.Proofs.Ytchholofnccbmaa
