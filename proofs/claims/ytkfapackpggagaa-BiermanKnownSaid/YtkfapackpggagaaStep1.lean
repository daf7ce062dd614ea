/- thornton.Step (1): the numbers, and the first loop. -/
import Derived.Test.YtkfapackpggagaaThRows
import Derived.Deep.Cut
import Derived.Deep.CutRange
namespace Go.Proofs.Ytkfapackpggagaa
open Go.RowKit
set_option maxRecDepth 100000
def qV (a : Int) : Int := clampV a 0 72057594037927936
def qH (a : Int) : Bool := clampH a 0 72057594037927936
/-- Step's first loop: E, and the matrix clamped. -/
def eS (p q : Nat → Int) (i : Nat) : Nat → Int := fun x => if x < i then p (276 + x) else if 24 ≤ x ∧ x < 24 + i then qV (q (x - 24)) else 0
def fS (F : Nat → Int) (i k : Nat) : Nat → Int := fun x => if x / 24 < i ∨ (x / 24 = i ∧ x % 24 < k) then satV (F x) else F x
def row1H (F : Nat → Int) (i k : Nat) : Bool := orB (fun k => satH (F (i * 24 + k))) k
def loop1H (q F : Nat → Int) (i : Nat) : Bool := orB (fun i => qH (q i) || row1H F i 24) i
theorem zvec : (#[.int .i64 0, .int .i64 0, .int .i64 0, .int .i64 0, .int .i64 0, .int .i64 0, .int .i64 0, .int .i64 0, .int .i64 0, .int .i64 0, .int .i64 0, .int .i64 0, .int .i64 0, .int .i64 0, .int .i64 0, .int .i64 0, .int .i64 0, .int .i64 0, .int .i64 0, .int .i64 0, .int .i64 0, .int .i64 0, .int .i64 0, .int .i64 0, .int .i64 0, .int .i64 0, .int .i64 0, .int .i64 0, .int .i64 0, .int .i64 0, .int .i64 0, .int .i64 0, .int .i64 0, .int .i64 0, .int .i64 0, .int .i64 0, .int .i64 0, .int .i64 0, .int .i64 0, .int .i64 0, .int .i64 0, .int .i64 0, .int .i64 0, .int .i64 0, .int .i64 0, .int .i64 0, .int .i64 0, .int .i64 0] : Array Value) = arrv 48 (fun _ => 0) := by kernel_rfl
/-- Step's answer. -/
def stepE (f q : Nat → Int) : Nat → Int := eS (condF f) q 24
def stepW (f F : Nat → Int) : Nat → Int := rowsW (condF f) (fS F 24 0)
def stepF (f F q : Nat → Int) : Nat → Int := ON (stepW f F) (stepE f q) 24
def stepH (f F q : Nat → Int) : Bool := condH f || loop1H q F 24 || rowsH (condF f) (fS F 24 0) || HN (stepW f F) (stepE f q) 24
end Go.Proofs.Ytkfapackpggagaa
