/-
  No cell of these rows narrows 'for every input' (looked for: loops, veiled, ifaces, maps, wideKeys, modest, calm, conditions, laid).
  DERIVED. THE GIVEN ROWS OF THIS SEAT. 5 by the template 'for every input the law returns true; each argument reads behind the call as it read before'; 0 by the template 'total and deterministic' (their statements: YtnnjcdbliaecgaaTotals.lean).
  GIVEN WITH THE SEED: the statements are not yours to turn. If you find one false, say at which input.
  Laid BY PROGRAM, IN A SANDBOX (cutbox-rows.mjs): the forced cells as the released guide's own fill.sh prints them over the translation d1af0f4a06305f1c… (all of the seat's roots in one cut). By AI agents, Wed Nov 11 2026. No macro, syntax, notation, axiom, sorry.
-/
import Derived.Test.YtnnjcdbliaecgaaChecked
import GoSem.Claim
import GoSem.ClaimJoined
import GoSem.ClaimMapViews
import Derived.JoinedTies
import Derived.KernelRfl
namespace Go.Proofs.Ytnnjcdbliaecgaa
/- THE CELL 'sum', in the pinned program and in every row, IS THE sha256 OF THE DUMP (.gsa) THAT YtnnjcdbliaecgaaProg.lean LOADS. Nothing in Lean hashes anything: it is a label: what it is worth is what the hold of that sum in a sandbox is worth. -/
noncomputable def Try.pinned : Pinned := { name := "ytnnjcdbliaecgaa", sum := "d1af0f4a06305f1cd4f81b49ac67a3b6382510e370d1775e9efded642fca7142", checked := Try.checked }
namespace Rows
def none {H : Type} : Left H := { results := [], args := [] }

/-- 'astrolabelaw16.StrapKnown': WHATEVER THE INPUT: true; the input reads as it did. -/
def strapKnownSpec : ChangeSpec := { name := "strapKnown", fn := fun _ => fun
  | [] => { results := [.lit (.bool true)], args := [] }
  | _ => none }
def strapKnownRow : OpenClaim := { program := "ytnnjcdbliaecgaa", sum := "d1af0f4a06305f1cd4f81b49ac67a3b6382510e370d1775e9efded642fca7142", func := "astrolabe/astrolabelaw16.StrapKnown", spec := "strapKnown", inPlace := ["math/bits.Add64", "math/bits.Sub64"], unfollowed := true, recurses := true, named := ["math/bits.divideError", "math/bits.overflowError"], apart := false }
def StrapKnownSaid : Prop := strapKnownRow.holds Try.pinned (OpenSpec.ofChange strapKnownSpec)

/-- ITS FALSE NEIGHBOUR: 'it returns false'. Refute it at one input. -/
def strapKnownWrong : ChangeSpec := { name := "strapKnown", fn := fun _ => fun
  | [] => { results := [.lit (.bool false)], args := [] }
  | _ => none }
def StrapKnownWrongFalsely : Prop := strapKnownRow.holds Try.pinned (OpenSpec.ofChange strapKnownWrong)

/-- 'astrolabelaw16.StrapGood': WHATEVER THE INPUT: true; the input reads as it did. -/
def strapGoodSpec : ChangeSpec := { name := "strapGood", fn := fun _ => fun
  | [d1, d2] => { results := [.lit (.bool true)], args := [d1, d2] }
  | _ => none }
def strapGoodRow : OpenClaim := { program := "ytnnjcdbliaecgaa", sum := "d1af0f4a06305f1cd4f81b49ac67a3b6382510e370d1775e9efded642fca7142", func := "astrolabe/astrolabelaw16.StrapGood", spec := "strapGood", inPlace := ["math/bits.Add64", "math/bits.Sub64"], unfollowed := true, recurses := true, named := ["math/bits.divideError", "math/bits.overflowError"], apart := false }
def StrapGoodSaid : Prop := strapGoodRow.holds Try.pinned (OpenSpec.ofChange strapGoodSpec)

/-- ITS FALSE NEIGHBOUR: 'it returns false'. Refute it at one input. -/
def strapGoodWrong : ChangeSpec := { name := "strapGood", fn := fun _ => fun
  | [d1, d2] => { results := [.lit (.bool false)], args := [d1, d2] }
  | _ => none }
def StrapGoodWrongFalsely : Prop := strapGoodRow.holds Try.pinned (OpenSpec.ofChange strapGoodWrong)

/-- 'astrolabelaw16.StrapFalls': WHATEVER THE INPUT: true; the input reads as it did. -/
def strapFallsSpec : ChangeSpec := { name := "strapFalls", fn := fun _ => fun
  | [d1, d2] => { results := [.lit (.bool true)], args := [d1, d2] }
  | _ => none }
def strapFallsRow : OpenClaim := { program := "ytnnjcdbliaecgaa", sum := "d1af0f4a06305f1cd4f81b49ac67a3b6382510e370d1775e9efded642fca7142", func := "astrolabe/astrolabelaw16.StrapFalls", spec := "strapFalls", inPlace := ["math/bits.Add64", "math/bits.Sub64"], unfollowed := true, recurses := true, named := ["math/bits.divideError", "math/bits.overflowError"], apart := false }
def StrapFallsSaid : Prop := strapFallsRow.holds Try.pinned (OpenSpec.ofChange strapFallsSpec)

/-- ITS FALSE NEIGHBOUR: 'it returns false'. Refute it at one input. -/
def strapFallsWrong : ChangeSpec := { name := "strapFalls", fn := fun _ => fun
  | [d1, d2] => { results := [.lit (.bool false)], args := [d1, d2] }
  | _ => none }
def StrapFallsWrongFalsely : Prop := strapFallsRow.holds Try.pinned (OpenSpec.ofChange strapFallsWrong)

/-- 'astrolabelaw16.StrapBias': WHATEVER THE INPUT: true; the input reads as it did. -/
def strapBiasSpec : ChangeSpec := { name := "strapBias", fn := fun _ => fun
  | [d1, d2, d3] => { results := [.lit (.bool true)], args := [d1, d2, d3] }
  | _ => none }
def strapBiasRow : OpenClaim := { program := "ytnnjcdbliaecgaa", sum := "d1af0f4a06305f1cd4f81b49ac67a3b6382510e370d1775e9efded642fca7142", func := "astrolabe/astrolabelaw16.StrapBias", spec := "strapBias", inPlace := ["math/bits.Add64", "math/bits.Sub64"], unfollowed := true, recurses := true, named := ["math/bits.divideError", "math/bits.overflowError"], apart := false }
def StrapBiasSaid : Prop := strapBiasRow.holds Try.pinned (OpenSpec.ofChange strapBiasSpec)

/-- ITS FALSE NEIGHBOUR: 'it returns false'. Refute it at one input. -/
def strapBiasWrong : ChangeSpec := { name := "strapBias", fn := fun _ => fun
  | [d1, d2, d3] => { results := [.lit (.bool false)], args := [d1, d2, d3] }
  | _ => none }
def StrapBiasWrongFalsely : Prop := strapBiasRow.holds Try.pinned (OpenSpec.ofChange strapBiasWrong)

/-- 'astrolabelaw16.StrapRest': WHATEVER THE INPUT: true; the input reads as it did. -/
def strapRestSpec : ChangeSpec := { name := "strapRest", fn := fun _ => fun
  | [d1, d2, d3, d4] => { results := [.lit (.bool true)], args := [d1, d2, d3, d4] }
  | _ => none }
def strapRestRow : OpenClaim := { program := "ytnnjcdbliaecgaa", sum := "d1af0f4a06305f1cd4f81b49ac67a3b6382510e370d1775e9efded642fca7142", func := "astrolabe/astrolabelaw16.StrapRest", spec := "strapRest", inPlace := ["math/bits.Add64", "math/bits.Sub64"], unfollowed := true, recurses := true, named := ["math/bits.divideError", "math/bits.overflowError"], apart := false }
def StrapRestSaid : Prop := strapRestRow.holds Try.pinned (OpenSpec.ofChange strapRestSpec)

/-- ITS FALSE NEIGHBOUR: 'it returns false'. Refute it at one input. -/
def strapRestWrong : ChangeSpec := { name := "strapRest", fn := fun _ => fun
  | [d1, d2, d3, d4] => { results := [.lit (.bool false)], args := [d1, d2, d3, d4] }
  | _ => none }
def StrapRestWrongFalsely : Prop := strapRestRow.holds Try.pinned (OpenSpec.ofChange strapRestWrong)

/- THE SECOND FORM. 'bulk': how many values and letters a reading holds, each counted each time it is reached (what is shared counts as often as it is met; a slice's spare places count too). A statement '..UptoSaid' is the law's where the arguments, and the package variables that the reading takes, are together of bulk at most 1048576: NARROWER than '..Said'. Prove '..Said' where nothing that the law and all that it calls make is longer than what came in: it says more and counts as full. Else prove '..UptoSaid'. A law counts once. -/
mutual
def uptoBulk {H : Type} : DataW H → Nat
  | .lit (.string bytes) => bytes.length + 1
  | .lit _ => 1
  | .nil => 1
  | .ptr d => uptoBulk d + 1
  | .slice elems spare => uptoBulkAll elems + uptoBulkAll spare + 1
  | .agg parts => uptoBulkAll parts + 1
  | .iface _ d => uptoBulk d + 1
  | .map entries => uptoBulkEntries entries + 1
  | .held _ => 1
def uptoBulkAll {H : Type} : List (DataW H) → Nat
  | [] => 0
  | d :: r => uptoBulk d + uptoBulkAll r
def uptoBulkEntries {H : Type} : List (Lit × DataW H) → Nat
  | [] => 0
  | x :: r => uptoBulkEntry x + uptoBulkEntries r
def uptoBulkEntry {H : Type} : Lit × DataW H → Nat
  | (.string bytes, d) => bytes.length + uptoBulk d + 1
  | (_, d) => uptoBulk d + 1
 end
def uptoSmall : (H : Type) → List (DataW H) → Bool := fun _ ds => decide (uptoBulkAll ds ≤ 1048576)
def OpenSpec.upto (s : _root_.Go.ChangeSpec) : _root_.Go.OpenSpec := { _root_.Go.OpenSpec.ofChange s with cond := some uptoSmall }

/-- 'astrolabelaw16.StrapKnown', WHERE WHAT IT READS IS OF BULK AT MOST 1048576: true; the input reads as it did. -/
def strapKnownUptoRow : OpenClaim := { program := "ytnnjcdbliaecgaa", sum := "d1af0f4a06305f1cd4f81b49ac67a3b6382510e370d1775e9efded642fca7142", func := "astrolabe/astrolabelaw16.StrapKnown", spec := "strapKnown", inPlace := ["math/bits.Add64", "math/bits.Sub64"], unfollowed := true, recurses := true, named := ["math/bits.divideError", "math/bits.overflowError"], apart := false, narrowed := true }
def StrapKnownUptoSaid : Prop := strapKnownUptoRow.holds Try.pinned (OpenSpec.upto strapKnownSpec)

/-- 'astrolabelaw16.StrapGood', WHERE WHAT IT READS IS OF BULK AT MOST 1048576: true; the input reads as it did. -/
def strapGoodUptoRow : OpenClaim := { program := "ytnnjcdbliaecgaa", sum := "d1af0f4a06305f1cd4f81b49ac67a3b6382510e370d1775e9efded642fca7142", func := "astrolabe/astrolabelaw16.StrapGood", spec := "strapGood", inPlace := ["math/bits.Add64", "math/bits.Sub64"], unfollowed := true, recurses := true, named := ["math/bits.divideError", "math/bits.overflowError"], apart := false, narrowed := true }
def StrapGoodUptoSaid : Prop := strapGoodUptoRow.holds Try.pinned (OpenSpec.upto strapGoodSpec)

/-- 'astrolabelaw16.StrapFalls', WHERE WHAT IT READS IS OF BULK AT MOST 1048576: true; the input reads as it did. -/
def strapFallsUptoRow : OpenClaim := { program := "ytnnjcdbliaecgaa", sum := "d1af0f4a06305f1cd4f81b49ac67a3b6382510e370d1775e9efded642fca7142", func := "astrolabe/astrolabelaw16.StrapFalls", spec := "strapFalls", inPlace := ["math/bits.Add64", "math/bits.Sub64"], unfollowed := true, recurses := true, named := ["math/bits.divideError", "math/bits.overflowError"], apart := false, narrowed := true }
def StrapFallsUptoSaid : Prop := strapFallsUptoRow.holds Try.pinned (OpenSpec.upto strapFallsSpec)

/-- 'astrolabelaw16.StrapBias', WHERE WHAT IT READS IS OF BULK AT MOST 1048576: true; the input reads as it did. -/
def strapBiasUptoRow : OpenClaim := { program := "ytnnjcdbliaecgaa", sum := "d1af0f4a06305f1cd4f81b49ac67a3b6382510e370d1775e9efded642fca7142", func := "astrolabe/astrolabelaw16.StrapBias", spec := "strapBias", inPlace := ["math/bits.Add64", "math/bits.Sub64"], unfollowed := true, recurses := true, named := ["math/bits.divideError", "math/bits.overflowError"], apart := false, narrowed := true }
def StrapBiasUptoSaid : Prop := strapBiasUptoRow.holds Try.pinned (OpenSpec.upto strapBiasSpec)

/-- 'astrolabelaw16.StrapRest', WHERE WHAT IT READS IS OF BULK AT MOST 1048576: true; the input reads as it did. -/
def strapRestUptoRow : OpenClaim := { program := "ytnnjcdbliaecgaa", sum := "d1af0f4a06305f1cd4f81b49ac67a3b6382510e370d1775e9efded642fca7142", func := "astrolabe/astrolabelaw16.StrapRest", spec := "strapRest", inPlace := ["math/bits.Add64", "math/bits.Sub64"], unfollowed := true, recurses := true, named := ["math/bits.divideError", "math/bits.overflowError"], apart := false, narrowed := true }
def StrapRestUptoSaid : Prop := strapRestUptoRow.holds Try.pinned (OpenSpec.upto strapRestSpec)

end Rows
end Go.Proofs.Ytnnjcdbliaecgaa
