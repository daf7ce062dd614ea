/-
  No cell of these rows narrows 'for every input' (looked for: loops, veiled, ifaces, maps, wideKeys, modest, calm, conditions, laid).
  DERIVED. THE GIVEN ROWS OF THIS SEAT. 4 by the template 'for every input the law returns true; each argument reads behind the call as it read before'; 0 by the template 'total and deterministic' (their statements: YtipkdkeacdmnaaaTotals.lean).
  GIVEN WITH THE SEED: the statements are not yours to turn. If you find one false, say at which input.
  Laid BY PROGRAM, IN A SANDBOX (cutbox-rows.mjs): the forced cells as the released guide's own fill.sh prints them over the translation b39c9dc1103a89f6… (all of the seat's roots in one cut). By AI agents, Wed Nov 11 2026. No macro, syntax, notation, axiom, sorry.
-/
import Derived.Test.YtipkdkeacdmnaaaChecked
import GoSem.Claim
import GoSem.ClaimJoined
import GoSem.ClaimMapViews
import Derived.JoinedTies
import Derived.KernelRfl
namespace Go.Proofs.Ytipkdkeacdmnaaa
/- THE CELL 'sum', in the pinned program and in every row, IS THE sha256 OF THE DUMP (.gsa) THAT YtipkdkeacdmnaaaProg.lean LOADS. Nothing in Lean hashes anything: it is a label: what it is worth is what the hold of that sum in a sandbox is worth. -/
noncomputable def Try.pinned : Pinned := { name := "ytipkdkeacdmnaaa", sum := "b39c9dc1103a89f607f8b2cd50b79be2d93f2c72e9ee86ae5bbbb1cf72de8936", checked := Try.checked }
namespace Rows
def none {H : Type} : Left H := { results := [], args := [] }

/-- 'astrolabelaw10.ThorntonClose': WHATEVER THE INPUT: true; the input reads as it did. -/
def thorntonCloseSpec : ChangeSpec := { name := "thorntonClose", fn := fun _ => fun
  | [d1, d2, d3, d4, d5] => { results := [.lit (.bool true)], args := [d1, d2, d3, d4, d5] }
  | _ => none }
def thorntonCloseRow : OpenClaim := { program := "ytipkdkeacdmnaaa", sum := "b39c9dc1103a89f607f8b2cd50b79be2d93f2c72e9ee86ae5bbbb1cf72de8936", func := "astrolabe/astrolabelaw10.ThorntonClose", spec := "thorntonClose", inPlace := ["math/bits.Add64"], named := ["math/bits.divideError", "math/bits.overflowError"], apart := false }
def ThorntonCloseSaid : Prop := thorntonCloseRow.holds Try.pinned (OpenSpec.ofChange thorntonCloseSpec)

/-- ITS FALSE NEIGHBOUR: 'it returns false'. Refute it at one input. -/
def thorntonCloseWrong : ChangeSpec := { name := "thorntonClose", fn := fun _ => fun
  | [d1, d2, d3, d4, d5] => { results := [.lit (.bool false)], args := [d1, d2, d3, d4, d5] }
  | _ => none }
def ThorntonCloseWrongFalsely : Prop := thorntonCloseRow.holds Try.pinned (OpenSpec.ofChange thorntonCloseWrong)

/-- 'astrolabelaw10.ThorntonKeeps': WHATEVER THE INPUT: true; the input reads as it did. -/
def thorntonKeepsSpec : ChangeSpec := { name := "thorntonKeeps", fn := fun _ => fun
  | [d1, d2, d3] => { results := [.lit (.bool true)], args := [d1, d2, d3] }
  | _ => none }
def thorntonKeepsRow : OpenClaim := { program := "ytipkdkeacdmnaaa", sum := "b39c9dc1103a89f607f8b2cd50b79be2d93f2c72e9ee86ae5bbbb1cf72de8936", func := "astrolabe/astrolabelaw10.ThorntonKeeps", spec := "thorntonKeeps", inPlace := ["math/bits.Add64"], named := ["math/bits.divideError", "math/bits.overflowError"], apart := false }
def ThorntonKeepsSaid : Prop := thorntonKeepsRow.holds Try.pinned (OpenSpec.ofChange thorntonKeepsSpec)

/-- ITS FALSE NEIGHBOUR: 'it returns false'. Refute it at one input. -/
def thorntonKeepsWrong : ChangeSpec := { name := "thorntonKeeps", fn := fun _ => fun
  | [d1, d2, d3] => { results := [.lit (.bool false)], args := [d1, d2, d3] }
  | _ => none }
def ThorntonKeepsWrongFalsely : Prop := thorntonKeepsRow.holds Try.pinned (OpenSpec.ofChange thorntonKeepsWrong)

/-- 'astrolabelaw12.BlockOthers': WHATEVER THE INPUT: true; the input reads as it did. -/
def blockOthersSpec : ChangeSpec := { name := "blockOthers", fn := fun _ => fun
  | [d1, d2, d3, d4, d5] => { results := [.lit (.bool true)], args := [d1, d2, d3, d4, d5] }
  | _ => none }
def blockOthersRow : OpenClaim := { program := "ytipkdkeacdmnaaa", sum := "b39c9dc1103a89f607f8b2cd50b79be2d93f2c72e9ee86ae5bbbb1cf72de8936", func := "astrolabe/astrolabelaw12.BlockOthers", spec := "blockOthers", inPlace := ["math/bits.Add64"], named := ["math/bits.divideError", "math/bits.overflowError"], apart := false }
def BlockOthersSaid : Prop := blockOthersRow.holds Try.pinned (OpenSpec.ofChange blockOthersSpec)

/-- ITS FALSE NEIGHBOUR: 'it returns false'. Refute it at one input. -/
def blockOthersWrong : ChangeSpec := { name := "blockOthers", fn := fun _ => fun
  | [d1, d2, d3, d4, d5] => { results := [.lit (.bool false)], args := [d1, d2, d3, d4, d5] }
  | _ => none }
def BlockOthersWrongFalsely : Prop := blockOthersRow.holds Try.pinned (OpenSpec.ofChange blockOthersWrong)

/-- 'astrolabelaw12.BlockGrows': WHATEVER THE INPUT: true; the input reads as it did. -/
def blockGrowsSpec : ChangeSpec := { name := "blockGrows", fn := fun _ => fun
  | [d1, d2, d3] => { results := [.lit (.bool true)], args := [d1, d2, d3] }
  | _ => none }
def blockGrowsRow : OpenClaim := { program := "ytipkdkeacdmnaaa", sum := "b39c9dc1103a89f607f8b2cd50b79be2d93f2c72e9ee86ae5bbbb1cf72de8936", func := "astrolabe/astrolabelaw12.BlockGrows", spec := "blockGrows", inPlace := ["math/bits.Add64"], named := ["math/bits.divideError", "math/bits.overflowError"], apart := false }
def BlockGrowsSaid : Prop := blockGrowsRow.holds Try.pinned (OpenSpec.ofChange blockGrowsSpec)

/-- ITS FALSE NEIGHBOUR: 'it returns false'. Refute it at one input. -/
def blockGrowsWrong : ChangeSpec := { name := "blockGrows", fn := fun _ => fun
  | [d1, d2, d3] => { results := [.lit (.bool false)], args := [d1, d2, d3] }
  | _ => none }
def BlockGrowsWrongFalsely : Prop := blockGrowsRow.holds Try.pinned (OpenSpec.ofChange blockGrowsWrong)

/- THE SECOND FORM. 'bulk': how many values and letters a reading holds, each counted each time it is reached (what is shared counts as often as it is met; a slice's spare places count too). A statement '..UptoSaid' is the law's where the arguments, and the package variables that the reading takes, are together of bulk at most 1048576: NARROWER than '..Said'. Prove '..Said' where nothing that the law and all that it calls make is longer than what came in: it says more and counts as full. Else prove '..UptoSaid'. A law counts once. -/
mutual
def uptoBulk {H : Type} : DataW H → Nat
  | .lit (.string bytes) => bytes.length + 1
  | .lit _ => 1
  | .nil => 1
  | .ptr d => uptoBulk d + 1
  | .slice elems spare => uptoBulkAll elems + uptoBulkAll spare + 1
  | .agg parts => uptoBulkAll parts + 1
  | .iface _ d => uptoBulk d + 1
  | .map entries => uptoBulkEntries entries + 1
  | .held _ => 1
def uptoBulkAll {H : Type} : List (DataW H) → Nat
  | [] => 0
  | d :: r => uptoBulk d + uptoBulkAll r
def uptoBulkEntries {H : Type} : List (Lit × DataW H) → Nat
  | [] => 0
  | x :: r => uptoBulkEntry x + uptoBulkEntries r
def uptoBulkEntry {H : Type} : Lit × DataW H → Nat
  | (.string bytes, d) => bytes.length + uptoBulk d + 1
  | (_, d) => uptoBulk d + 1
 end
def uptoSmall : (H : Type) → List (DataW H) → Bool := fun _ ds => decide (uptoBulkAll ds ≤ 1048576)
def OpenSpec.upto (s : _root_.Go.ChangeSpec) : _root_.Go.OpenSpec := { _root_.Go.OpenSpec.ofChange s with cond := some uptoSmall }

/-- 'astrolabelaw10.ThorntonClose', WHERE WHAT IT READS IS OF BULK AT MOST 1048576: true; the input reads as it did. -/
def thorntonCloseUptoRow : OpenClaim := { program := "ytipkdkeacdmnaaa", sum := "b39c9dc1103a89f607f8b2cd50b79be2d93f2c72e9ee86ae5bbbb1cf72de8936", func := "astrolabe/astrolabelaw10.ThorntonClose", spec := "thorntonClose", inPlace := ["math/bits.Add64"], named := ["math/bits.divideError", "math/bits.overflowError"], apart := false, narrowed := true }
def ThorntonCloseUptoSaid : Prop := thorntonCloseUptoRow.holds Try.pinned (OpenSpec.upto thorntonCloseSpec)

/-- 'astrolabelaw10.ThorntonKeeps', WHERE WHAT IT READS IS OF BULK AT MOST 1048576: true; the input reads as it did. -/
def thorntonKeepsUptoRow : OpenClaim := { program := "ytipkdkeacdmnaaa", sum := "b39c9dc1103a89f607f8b2cd50b79be2d93f2c72e9ee86ae5bbbb1cf72de8936", func := "astrolabe/astrolabelaw10.ThorntonKeeps", spec := "thorntonKeeps", inPlace := ["math/bits.Add64"], named := ["math/bits.divideError", "math/bits.overflowError"], apart := false, narrowed := true }
def ThorntonKeepsUptoSaid : Prop := thorntonKeepsUptoRow.holds Try.pinned (OpenSpec.upto thorntonKeepsSpec)

/-- 'astrolabelaw12.BlockOthers', WHERE WHAT IT READS IS OF BULK AT MOST 1048576: true; the input reads as it did. -/
def blockOthersUptoRow : OpenClaim := { program := "ytipkdkeacdmnaaa", sum := "b39c9dc1103a89f607f8b2cd50b79be2d93f2c72e9ee86ae5bbbb1cf72de8936", func := "astrolabe/astrolabelaw12.BlockOthers", spec := "blockOthers", inPlace := ["math/bits.Add64"], named := ["math/bits.divideError", "math/bits.overflowError"], apart := false, narrowed := true }
def BlockOthersUptoSaid : Prop := blockOthersUptoRow.holds Try.pinned (OpenSpec.upto blockOthersSpec)

/-- 'astrolabelaw12.BlockGrows', WHERE WHAT IT READS IS OF BULK AT MOST 1048576: true; the input reads as it did. -/
def blockGrowsUptoRow : OpenClaim := { program := "ytipkdkeacdmnaaa", sum := "b39c9dc1103a89f607f8b2cd50b79be2d93f2c72e9ee86ae5bbbb1cf72de8936", func := "astrolabe/astrolabelaw12.BlockGrows", spec := "blockGrows", inPlace := ["math/bits.Add64"], named := ["math/bits.divideError", "math/bits.overflowError"], apart := false, narrowed := true }
def BlockGrowsUptoSaid : Prop := blockGrowsUptoRow.holds Try.pinned (OpenSpec.upto blockGrowsSpec)

end Rows
end Go.Proofs.Ytipkdkeacdmnaaa
