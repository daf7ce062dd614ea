/-
  No cell of these rows narrows 'for every input' (looked for: loops, veiled, ifaces, maps, wideKeys, modest, calm, conditions, laid).
  DERIVED. THE GIVEN ROWS OF THIS SEAT. 3 by the template 'for every input the law returns true; each argument reads behind the call as it read before'; 0 by the template 'total and deterministic' (their statements: YtglpbcionohipaaTotals.lean).
  GIVEN WITH THE SEED: the statements are not yours to turn. If you find one false, say at which input.
  Laid BY PROGRAM, IN A SANDBOX (cutbox-rows.mjs): the forced cells as the released guide's own fill.sh prints them over the translation 5cc91d21ab9969f7… (all of the seat's roots in one cut). By AI agents, Wed Nov 11 2026. No macro, syntax, notation, axiom, sorry.
-/
import Derived.Test.YtglpbcionohipaaChecked
import GoSem.Claim
import GoSem.ClaimJoined
import GoSem.ClaimMapViews
import Derived.JoinedTies
import Derived.KernelRfl
namespace Go.Proofs.Ytglpbcionohipaa
/- THE CELL 'sum', in the pinned program and in every row, IS THE sha256 OF THE DUMP (.gsa) THAT YtglpbcionohipaaProg.lean LOADS. Nothing in Lean hashes anything: it is a label: what it is worth is what the hold of that sum in a sandbox is worth. -/
noncomputable def Try.pinned : Pinned := { name := "ytglpbcionohipaa", sum := "5cc91d21ab9969f7d7c64cca421ada3289214636876522d7a5bb8dd0107a0249", checked := Try.checked }
namespace Rows
def none {H : Type} : Left H := { results := [], args := [] }

/-- 'astrolabelaw11.BiermanOne': WHATEVER THE INPUT: true; the input reads as it did. -/
def biermanOneSpec : ChangeSpec := { name := "biermanOne", fn := fun _ => fun
  | [d1, d2, d3] => { results := [.lit (.bool true)], args := [d1, d2, d3] }
  | _ => none }
def biermanOneRow : OpenClaim := { program := "ytglpbcionohipaa", sum := "5cc91d21ab9969f7d7c64cca421ada3289214636876522d7a5bb8dd0107a0249", func := "astrolabe/astrolabelaw11.BiermanOne", spec := "biermanOne", inPlace := ["math/bits.Add64"], named := ["math/bits.divideError", "math/bits.overflowError"], apart := false }
def BiermanOneSaid : Prop := biermanOneRow.holds Try.pinned (OpenSpec.ofChange biermanOneSpec)

/-- ITS FALSE NEIGHBOUR: 'it returns false'. Refute it at one input. -/
def biermanOneWrong : ChangeSpec := { name := "biermanOne", fn := fun _ => fun
  | [d1, d2, d3] => { results := [.lit (.bool false)], args := [d1, d2, d3] }
  | _ => none }
def BiermanOneWrongFalsely : Prop := biermanOneRow.holds Try.pinned (OpenSpec.ofChange biermanOneWrong)

/-- 'astrolabelaw12.BlockKnown': WHATEVER THE INPUT: true; the input reads as it did. -/
def blockKnownSpec : ChangeSpec := { name := "blockKnown", fn := fun _ => fun
  | [] => { results := [.lit (.bool true)], args := [] }
  | _ => none }
def blockKnownRow : OpenClaim := { program := "ytglpbcionohipaa", sum := "5cc91d21ab9969f7d7c64cca421ada3289214636876522d7a5bb8dd0107a0249", func := "astrolabe/astrolabelaw12.BlockKnown", spec := "blockKnown", inPlace := ["math/bits.Add64"], named := ["math/bits.divideError", "math/bits.overflowError"], apart := false }
def BlockKnownSaid : Prop := blockKnownRow.holds Try.pinned (OpenSpec.ofChange blockKnownSpec)

/-- ITS FALSE NEIGHBOUR: 'it returns false'. Refute it at one input. -/
def blockKnownWrong : ChangeSpec := { name := "blockKnown", fn := fun _ => fun
  | [] => { results := [.lit (.bool false)], args := [] }
  | _ => none }
def BlockKnownWrongFalsely : Prop := blockKnownRow.holds Try.pinned (OpenSpec.ofChange blockKnownWrong)

/-- 'astrolabelaw12.BlockApart': WHATEVER THE INPUT: true; the input reads as it did. -/
def blockApartSpec : ChangeSpec := { name := "blockApart", fn := fun _ => fun
  | [d1, d2, d3] => { results := [.lit (.bool true)], args := [d1, d2, d3] }
  | _ => none }
def blockApartRow : OpenClaim := { program := "ytglpbcionohipaa", sum := "5cc91d21ab9969f7d7c64cca421ada3289214636876522d7a5bb8dd0107a0249", func := "astrolabe/astrolabelaw12.BlockApart", spec := "blockApart", inPlace := ["math/bits.Add64"], named := ["math/bits.divideError", "math/bits.overflowError"], apart := false }
def BlockApartSaid : Prop := blockApartRow.holds Try.pinned (OpenSpec.ofChange blockApartSpec)

/-- ITS FALSE NEIGHBOUR: 'it returns false'. Refute it at one input. -/
def blockApartWrong : ChangeSpec := { name := "blockApart", fn := fun _ => fun
  | [d1, d2, d3] => { results := [.lit (.bool false)], args := [d1, d2, d3] }
  | _ => none }
def BlockApartWrongFalsely : Prop := blockApartRow.holds Try.pinned (OpenSpec.ofChange blockApartWrong)

/- THE SECOND FORM. 'bulk': how many values and letters a reading holds, each counted each time it is reached (what is shared counts as often as it is met; a slice's spare places count too). A statement '..UptoSaid' is the law's where the arguments, and the package variables that the reading takes, are together of bulk at most 1048576: NARROWER than '..Said'. Prove '..Said' where nothing that the law and all that it calls make is longer than what came in: it says more and counts as full. Else prove '..UptoSaid'. A law counts once. -/
mutual
def uptoBulk {H : Type} : DataW H → Nat
  | .lit (.string bytes) => bytes.length + 1
  | .lit _ => 1
  | .nil => 1
  | .ptr d => uptoBulk d + 1
  | .slice elems spare => uptoBulkAll elems + uptoBulkAll spare + 1
  | .agg parts => uptoBulkAll parts + 1
  | .iface _ d => uptoBulk d + 1
  | .map entries => uptoBulkEntries entries + 1
  | .held _ => 1
def uptoBulkAll {H : Type} : List (DataW H) → Nat
  | [] => 0
  | d :: r => uptoBulk d + uptoBulkAll r
def uptoBulkEntries {H : Type} : List (Lit × DataW H) → Nat
  | [] => 0
  | x :: r => uptoBulkEntry x + uptoBulkEntries r
def uptoBulkEntry {H : Type} : Lit × DataW H → Nat
  | (.string bytes, d) => bytes.length + uptoBulk d + 1
  | (_, d) => uptoBulk d + 1
 end
def uptoSmall : (H : Type) → List (DataW H) → Bool := fun _ ds => decide (uptoBulkAll ds ≤ 1048576)
def OpenSpec.upto (s : _root_.Go.ChangeSpec) : _root_.Go.OpenSpec := { _root_.Go.OpenSpec.ofChange s with cond := some uptoSmall }

/-- 'astrolabelaw11.BiermanOne', WHERE WHAT IT READS IS OF BULK AT MOST 1048576: true; the input reads as it did. -/
def biermanOneUptoRow : OpenClaim := { program := "ytglpbcionohipaa", sum := "5cc91d21ab9969f7d7c64cca421ada3289214636876522d7a5bb8dd0107a0249", func := "astrolabe/astrolabelaw11.BiermanOne", spec := "biermanOne", inPlace := ["math/bits.Add64"], named := ["math/bits.divideError", "math/bits.overflowError"], apart := false, narrowed := true }
def BiermanOneUptoSaid : Prop := biermanOneUptoRow.holds Try.pinned (OpenSpec.upto biermanOneSpec)

/-- 'astrolabelaw12.BlockKnown', WHERE WHAT IT READS IS OF BULK AT MOST 1048576: true; the input reads as it did. -/
def blockKnownUptoRow : OpenClaim := { program := "ytglpbcionohipaa", sum := "5cc91d21ab9969f7d7c64cca421ada3289214636876522d7a5bb8dd0107a0249", func := "astrolabe/astrolabelaw12.BlockKnown", spec := "blockKnown", inPlace := ["math/bits.Add64"], named := ["math/bits.divideError", "math/bits.overflowError"], apart := false, narrowed := true }
def BlockKnownUptoSaid : Prop := blockKnownUptoRow.holds Try.pinned (OpenSpec.upto blockKnownSpec)

/-- 'astrolabelaw12.BlockApart', WHERE WHAT IT READS IS OF BULK AT MOST 1048576: true; the input reads as it did. -/
def blockApartUptoRow : OpenClaim := { program := "ytglpbcionohipaa", sum := "5cc91d21ab9969f7d7c64cca421ada3289214636876522d7a5bb8dd0107a0249", func := "astrolabe/astrolabelaw12.BlockApart", spec := "blockApart", inPlace := ["math/bits.Add64"], named := ["math/bits.divideError", "math/bits.overflowError"], apart := false, narrowed := true }
def BlockApartUptoSaid : Prop := blockApartUptoRow.holds Try.pinned (OpenSpec.upto blockApartSpec)

end Rows
end Go.Proofs.Ytglpbcionohipaa
