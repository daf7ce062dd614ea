/-
  No cell of these rows narrows 'for every input' (looked for: loops, veiled, ifaces, maps, wideKeys, modest, calm, conditions, laid).
  DERIVED. THE GIVEN ROWS OF THIS SEAT. 3 by the template 'for every input the law returns true; each argument reads behind the call as it read before'; 0 by the template 'total and deterministic' (their statements: YtokcdlcmamdloaaTotals.lean).
  GIVEN WITH THE SEED: the statements are not yours to turn. If you find one false, say at which input.
  Laid BY PROGRAM, IN A SANDBOX (cutbox-rows.mjs): the forced cells as the released guide's own fill.sh prints them over the translation a722337dc42f8256… (all of the seat's roots in one cut). By AI agents, Wed Nov 11 2026. No macro, syntax, notation, axiom, sorry.
-/
import Derived.Test.YtokcdlcmamdloaaChecked
import GoSem.Claim
import GoSem.ClaimJoined
import GoSem.ClaimMapViews
import Derived.JoinedTies
import Derived.KernelRfl
namespace Go.Proofs.Ytokcdlcmamdloaa
/- THE CELL 'sum', in the pinned program and in every row, IS THE sha256 OF THE DUMP (.gsa) THAT YtokcdlcmamdloaaProg.lean LOADS. Nothing in Lean hashes anything: it is a label: what it is worth is what the hold of that sum in a sandbox is worth. -/
noncomputable def Try.pinned : Pinned := { name := "ytokcdlcmamdloaa", sum := "a722337dc42f82564488528340f46d4fa023ada02dbf6705d2153868cf48c4ca", checked := Try.checked }
namespace Rows
def none {H : Type} : Left H := { results := [], args := [] }

/-- 'astrolabelaw10.ThorntonSays': WHATEVER THE INPUT: true; the input reads as it did. -/
def thorntonSaysSpec : ChangeSpec := { name := "thorntonSays", fn := fun _ => fun
  | [d1, d2, d3] => { results := [.lit (.bool true)], args := [d1, d2, d3] }
  | _ => none }
def thorntonSaysRow : OpenClaim := { program := "ytokcdlcmamdloaa", sum := "a722337dc42f82564488528340f46d4fa023ada02dbf6705d2153868cf48c4ca", func := "astrolabe/astrolabelaw10.ThorntonSays", spec := "thorntonSays", inPlace := ["math/bits.Add64"], named := ["math/bits.divideError", "math/bits.overflowError"], apart := false }
def ThorntonSaysSaid : Prop := thorntonSaysRow.holds Try.pinned (OpenSpec.ofChange thorntonSaysSpec)

/-- ITS FALSE NEIGHBOUR: 'it returns false'. Refute it at one input. -/
def thorntonSaysWrong : ChangeSpec := { name := "thorntonSays", fn := fun _ => fun
  | [d1, d2, d3] => { results := [.lit (.bool false)], args := [d1, d2, d3] }
  | _ => none }
def ThorntonSaysWrongFalsely : Prop := thorntonSaysRow.holds Try.pinned (OpenSpec.ofChange thorntonSaysWrong)

/-- 'astrolabelaw11.BiermanSays': WHATEVER THE INPUT: true; the input reads as it did. -/
def biermanSaysSpec : ChangeSpec := { name := "biermanSays", fn := fun _ => fun
  | [d1, d2, d3, d4, d5] => { results := [.lit (.bool true)], args := [d1, d2, d3, d4, d5] }
  | _ => none }
def biermanSaysRow : OpenClaim := { program := "ytokcdlcmamdloaa", sum := "a722337dc42f82564488528340f46d4fa023ada02dbf6705d2153868cf48c4ca", func := "astrolabe/astrolabelaw11.BiermanSays", spec := "biermanSays", inPlace := ["math/bits.Add64"], named := ["math/bits.divideError", "math/bits.overflowError"], apart := false }
def BiermanSaysSaid : Prop := biermanSaysRow.holds Try.pinned (OpenSpec.ofChange biermanSaysSpec)

/-- ITS FALSE NEIGHBOUR: 'it returns false'. Refute it at one input. -/
def biermanSaysWrong : ChangeSpec := { name := "biermanSays", fn := fun _ => fun
  | [d1, d2, d3, d4, d5] => { results := [.lit (.bool false)], args := [d1, d2, d3, d4, d5] }
  | _ => none }
def BiermanSaysWrongFalsely : Prop := biermanSaysRow.holds Try.pinned (OpenSpec.ofChange biermanSaysWrong)

/-- 'astrolabelaw12.BlockSays': WHATEVER THE INPUT: true; the input reads as it did. -/
def blockSaysSpec : ChangeSpec := { name := "blockSays", fn := fun _ => fun
  | [d1, d2, d3, d4] => { results := [.lit (.bool true)], args := [d1, d2, d3, d4] }
  | _ => none }
def blockSaysRow : OpenClaim := { program := "ytokcdlcmamdloaa", sum := "a722337dc42f82564488528340f46d4fa023ada02dbf6705d2153868cf48c4ca", func := "astrolabe/astrolabelaw12.BlockSays", spec := "blockSays", inPlace := ["math/bits.Add64"], named := ["math/bits.divideError", "math/bits.overflowError"], apart := false }
def BlockSaysSaid : Prop := blockSaysRow.holds Try.pinned (OpenSpec.ofChange blockSaysSpec)

/-- ITS FALSE NEIGHBOUR: 'it returns false'. Refute it at one input. -/
def blockSaysWrong : ChangeSpec := { name := "blockSays", fn := fun _ => fun
  | [d1, d2, d3, d4] => { results := [.lit (.bool false)], args := [d1, d2, d3, d4] }
  | _ => none }
def BlockSaysWrongFalsely : Prop := blockSaysRow.holds Try.pinned (OpenSpec.ofChange blockSaysWrong)

/- THE SECOND FORM. 'bulk': how many values and letters a reading holds, each counted each time it is reached (what is shared counts as often as it is met; a slice's spare places count too). A statement '..UptoSaid' is the law's where the arguments, and the package variables that the reading takes, are together of bulk at most 1048576: NARROWER than '..Said'. Prove '..Said' where nothing that the law and all that it calls make is longer than what came in: it says more and counts as full. Else prove '..UptoSaid'. A law counts once. -/
mutual
def uptoBulk {H : Type} : DataW H → Nat
  | .lit (.string bytes) => bytes.length + 1
  | .lit _ => 1
  | .nil => 1
  | .ptr d => uptoBulk d + 1
  | .slice elems spare => uptoBulkAll elems + uptoBulkAll spare + 1
  | .agg parts => uptoBulkAll parts + 1
  | .iface _ d => uptoBulk d + 1
  | .map entries => uptoBulkEntries entries + 1
  | .held _ => 1
def uptoBulkAll {H : Type} : List (DataW H) → Nat
  | [] => 0
  | d :: r => uptoBulk d + uptoBulkAll r
def uptoBulkEntries {H : Type} : List (Lit × DataW H) → Nat
  | [] => 0
  | x :: r => uptoBulkEntry x + uptoBulkEntries r
def uptoBulkEntry {H : Type} : Lit × DataW H → Nat
  | (.string bytes, d) => bytes.length + uptoBulk d + 1
  | (_, d) => uptoBulk d + 1
 end
def uptoSmall : (H : Type) → List (DataW H) → Bool := fun _ ds => decide (uptoBulkAll ds ≤ 1048576)
def OpenSpec.upto (s : _root_.Go.ChangeSpec) : _root_.Go.OpenSpec := { _root_.Go.OpenSpec.ofChange s with cond := some uptoSmall }

/-- 'astrolabelaw10.ThorntonSays', WHERE WHAT IT READS IS OF BULK AT MOST 1048576: true; the input reads as it did. -/
def thorntonSaysUptoRow : OpenClaim := { program := "ytokcdlcmamdloaa", sum := "a722337dc42f82564488528340f46d4fa023ada02dbf6705d2153868cf48c4ca", func := "astrolabe/astrolabelaw10.ThorntonSays", spec := "thorntonSays", inPlace := ["math/bits.Add64"], named := ["math/bits.divideError", "math/bits.overflowError"], apart := false, narrowed := true }
def ThorntonSaysUptoSaid : Prop := thorntonSaysUptoRow.holds Try.pinned (OpenSpec.upto thorntonSaysSpec)

/-- 'astrolabelaw11.BiermanSays', WHERE WHAT IT READS IS OF BULK AT MOST 1048576: true; the input reads as it did. -/
def biermanSaysUptoRow : OpenClaim := { program := "ytokcdlcmamdloaa", sum := "a722337dc42f82564488528340f46d4fa023ada02dbf6705d2153868cf48c4ca", func := "astrolabe/astrolabelaw11.BiermanSays", spec := "biermanSays", inPlace := ["math/bits.Add64"], named := ["math/bits.divideError", "math/bits.overflowError"], apart := false, narrowed := true }
def BiermanSaysUptoSaid : Prop := biermanSaysUptoRow.holds Try.pinned (OpenSpec.upto biermanSaysSpec)

/-- 'astrolabelaw12.BlockSays', WHERE WHAT IT READS IS OF BULK AT MOST 1048576: true; the input reads as it did. -/
def blockSaysUptoRow : OpenClaim := { program := "ytokcdlcmamdloaa", sum := "a722337dc42f82564488528340f46d4fa023ada02dbf6705d2153868cf48c4ca", func := "astrolabe/astrolabelaw12.BlockSays", spec := "blockSays", inPlace := ["math/bits.Add64"], named := ["math/bits.divideError", "math/bits.overflowError"], apart := false, narrowed := true }
def BlockSaysUptoSaid : Prop := blockSaysUptoRow.holds Try.pinned (OpenSpec.upto blockSaysSpec)

end Rows
end Go.Proofs.Ytokcdlcmamdloaa
