/- Contracts of package thornton (1): One, rows. -/
import Derived.Test.YtkfapackpggagaaTri
namespace Go.Proofs.Ytkfapackpggagaa
open Go.RowKit
set_option maxRecDepth 100000
def oneF : Nat → Int := fun i => if i / 24 = i % 24 then 1073741824 else 0
def oneS (k : Nat) : Nat → Int := fun i => if i / 24 = i % 24 ∧ i / 24 < k then 1073741824 else 0

/-- Column k of U; row i of a matrix. -/
def colF (f : Nat → Int) (k : Nat) : Nat → Int := fun m => if m ≤ k then uV f m k else 0
def rwV (f F : Nat → Int) (i k : Nat) : Int := dotV 30 (rowF 24 F i) (colF f k) 24
def rwB (f F : Nat → Int) (i k : Nat) : Bool := dotH 30 (rowF 24 F i) (colF f k) 24
def rwS (f F : Nat → Int) (k i : Nat) : Nat → Int := fun j => if j % 48 < k ∨ (j % 48 = k ∧ j / 48 < i) then rwV f F (j / 48) (j % 48) else 0
def rwE (f F : Nat → Int) (i : Nat) : Nat → Int := fun j => if j % 48 = 24 + j / 48 ∧ j / 48 < i then 1073741824 else rwS f F 24 0 j
def rowsW (f F : Nat → Int) : Nat → Int := fun j => if j % 48 < 24 then rwV f F (j / 48) (j % 48) else if j % 48 = 24 + j / 48 then 1073741824 else 0
def rwH (f F : Nat → Int) (k : Nat) : Bool := orB (fun k => orB (fun i => rwB f F i k) 24) k
def rowsH (f F : Nat → Int) : Bool := rwH f F 24
theorem zcol : (#[.int .i64 0, .int .i64 0, .int .i64 0, .int .i64 0, .int .i64 0, .int .i64 0, .int .i64 0, .int .i64 0, .int .i64 0, .int .i64 0, .int .i64 0, .int .i64 0, .int .i64 0, .int .i64 0, .int .i64 0, .int .i64 0, .int .i64 0, .int .i64 0, .int .i64 0, .int .i64 0, .int .i64 0, .int .i64 0, .int .i64 0, .int .i64 0] : Array Value) = arrv 24 (fun _ => 0) := by kernel_rfl
end Go.Proofs.Ytkfapackpggagaa
