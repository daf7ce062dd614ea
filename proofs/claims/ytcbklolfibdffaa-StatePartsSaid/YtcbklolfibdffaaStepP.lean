/- thornton.Step's numbers: one elimination, and all of them. No program. -/
import Derived.Test.YtcbklolfibdffaaPlain2
namespace Go.Proofs.Ytcbklolfibdffaa
def upd (f : Nat → Int) (j : Nat) (v : Int) : Nat → Int := fun i => if i = j then v else f i
/-- Is one of the first n so? -/
def orB (p : Nat → Bool) : Nat → Bool | 0 => false | n + 1 => orB p n || p n
def varV (a : Int) : Int := clampV a 1 72057594037927936
def varH (a : Int) : Bool := clampH a 1 72057594037927936
def subV (a b : Int) : Int := satV (satV a - satV b)
def subH (a b : Int) : Bool := satH a || satH b || satH (satV a - satV b)
/-- Row i of a matrix of n columns. -/
def rowF (n : Nat) (F : Nat → Int) (i : Nat) : Nat → Int := fun m => F (i * n + m)
/-- Where U's number of row i and column j stands. -/
def pl (i j : Nat) : Nat := j * (j - 1) / 2 + i
/-- One elimination, row j. -/
def stY (W e : Nat → Int) (j : Nat) : Nat → Int := fun k => mulV (W (j * 48 + k)) (e k) 30
def stD (W e : Nat → Int) (j : Nat) : Int := varV (dotV 30 (rowF 48 W j) (stY W e j) 48)
def stU (W e : Nat → Int) (j i : Nat) : Int := divV (dotV 30 (rowF 48 W i) (stY W e j) 48) (stD W e j) 30
def elV (W : Nat → Int) (u : Int) (j i k : Nat) : Int := subV (W (i * 48 + k)) (mulV u (W (j * 48 + k)) 30)
def elB (W : Nat → Int) (u : Int) (j i k : Nat) : Bool := mulH u (W (j * 48 + k)) 30 || subH (W (i * 48 + k)) (mulV u (W (j * 48 + k)) 30)
/-- m rows are done, and of row m the first kk numbers. -/
def elW (W e : Nat → Int) (j m kk : Nat) : Nat → Int := fun x => if x / 48 < m ∨ (x / 48 = m ∧ x % 48 < kk) then elV W (stU W e j (x / 48)) j (x / 48) (x % 48) else W x
def outI (O W e : Nat → Int) (j : Nat) : Nat → Nat → Int | 0 => upd O (276 + j) (stD W e j) | m + 1 => upd (outI O W e j m) (pl m j) (stU W e j m)
def yB (W e : Nat → Int) (j k : Nat) : Bool := mulH (W (j * 48 + k)) (e k) 30
def dB (W e : Nat → Int) (j : Nat) : Bool := dotH 30 (rowF 48 W j) (stY W e j) 48 || varH (dotV 30 (rowF 48 W j) (stY W e j) 48)
def uB (W e : Nat → Int) (j i : Nat) : Bool := dotH 30 (rowF 48 W i) (stY W e j) 48 || divH (dotV 30 (rowF 48 W i) (stY W e j) 48) (stD W e j) 30
def rowB (W e : Nat → Int) (j i : Nat) : Bool := uB W e j i || orB (elB W (stU W e j i) j i) 48
def stageH (W e : Nat → Int) (j : Nat) : Bool := orB (yB W e j) 48 || dB W e j || orB (rowB W e j) j
/-- n eliminations are done: of rows 23, 22, .. -/
def WN (W e : Nat → Int) : Nat → Nat → Int | 0 => W | n + 1 => elW (WN W e n) e (23 - n) (23 - n) 0
def ON (W e : Nat → Int) : Nat → Nat → Int | 0 => fun _ => 0 | n + 1 => outI (ON W e n) (WN W e n) e (23 - n) (23 - n)
def HN (W e : Nat → Int) : Nat → Bool | 0 => false | n + 1 => HN W e n || stageH (WN W e n) e (23 - n)
def addV (a b : Int) : Int := satV (satV a + satV b)
def addH (a b : Int) : Bool := satH a || satH b || satH (satV a + satV b)
def two (x y : Int) : Nat → Int := fun i => if i = 0 then x else y
theorem add2 (x y : Int) (h : Bool) : satV (sumS (two x y) 2) = addV x y ∧ (h || sumB (two x y) 2 || satH (sumS (two x y) 2)) = (h || addH x y) := by
  have e : sumS (two x y) 2 = satV x + satV y := by simp [sumS, two]
  rw [e]
  refine ⟨rfl, ?_⟩
  simp [sumB, two, addH, Bool.or_assoc]
end Go.Proofs.Ytcbklolfibdffaa
