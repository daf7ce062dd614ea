/- Contracts of the program's functions and plain laws, part 1: they hold for all arguments. -/
import Derived.WalkKit
import Derived.WalkSpells
import Derived.WalkLawsBesides
import Derived.Below
import Derived.Lib.Hide
import Derived.Test.YtgfklheepkgedaaGreatProg
import Derived.Outline
import Derived.BigRegion
import Derived.BigQuiet
import Derived.Deep.QuietTactic
import Derived.Deep.RegionHeld3
import Derived.Shelf.Small.Bits
import Derived.Shelf.Strconv.Itoa0
import Derived.Shelf.Bits.Mul64
/- Small laws on worlds: a call that may set one flag cell and makes new blocks ('Upd'). Plain: no program. -/
namespace Go.Proofs.YtgfklheepkgedaaGreat
theorem nA {α : Type _} (l : List α) (i : Nat) (a : α) : l.toArray.setIfInBounds i a = (l.set i a).toArray := List.setIfInBounds_toArray l i a
theorem nB {α : Type _} {x a : α} {l : List α} : (x :: l).set 0 a = a :: l := List.set_cons_zero
theorem nC {α : Type _} {x a : α} {l : List α} {n : Nat} : (x :: l).set (n + 1) a = x :: l.set n a := List.set_cons_succ
open Go.RowKit

theorem setCell_self (w : World) (c : Addr) (v : Value) (h : w.cell? c = some v) : w.setCell c v = w := by
 have hb := World.block_lt_of_cell? w c h
 have hg : w.heap[c.block]? = some w.heap[c.block] := by simp [hb]
 unfold World.cell? at h
 rw [hg] at h
 have hh : (w.setCell c v).heap = w.heap := by
  apply Array.ext_getElem?
  intro i
  simp only [World.setCell, Array.getElem?_modify]
  by_cases hi : c.block = i
  ·subst hi
   rw [if_pos rfl, hg]
   cases hx : w.heap[c.block] with
   | cells cc e f =>
    rw [hx] at h
    simp only at h
    by_cases hs : c.spot.isSome
    ·simp [hs] at h
    ·simp only [hs, if_false, Bool.false_eq_true] at h
     simp only [Option.map_some, hs, if_false, Bool.false_eq_true]
     congr 2
     apply Array.ext_getElem?
     intro j
     rw [Array.getElem?_setIfInBounds]
     by_cases hj : c.off = j
     ·subst hj
      rw [if_pos rfl]
      split
      ·exact h.symm
      ·rename_i hlt
       rw [Array.getElem?_eq_none (by omega)] at h; cases h
     ·rw [if_neg hj]
   | _ => rw [hx] at h; simp at h
  ·rw [if_neg hi]
 show ({ w with heap := (w.setCell c v).heap } : World) = w
 rw [hh]

/-- The flag's cell holds h now; what was there is else as it was; there may be new blocks. -/
def Upd (c : Addr) (h : Bool) (w w' : World) : Prop := Below w.heap.size (w.setCell c (.bool h)) w'

theorem setCell_size (w : World) (c : Addr) (v : Value) : (w.setCell c v).heap.size = w.heap.size := by simp [World.setCell]

theorem Upd.size {c : Addr} {h : Bool} {w w' : World} (u : Upd c h w w') : w.heap.size ≤ w'.heap.size := by
 have := Below.size u; rwa [setCell_size] at this
theorem Upd.block {c : Addr} {h : Bool} {w w' : World} (u : Upd c h w w') {k : Nat} (hk : k < w.heap.size) (hn : k ≠ c.block) : w'.heap[k]? = w.heap[k]? := by
 rw [Below.block u k hk]; exact Below.heap_setCell w c _ k hn
theorem Upd.cellc {c : Addr} {h h0 : Bool} {w w' : World} (u : Upd c h w w') (hc : w.cell? c = some (.bool h0)) : w'.cell? c = some (.bool h) := by
 have hb := World.block_lt_of_cell? w c hc
 rw [Below.cell u hb]; exact World.cell?_setCell_same _ _ _ hc
theorem Upd.cell {c : Addr} {h : Bool} {w w' : World} (u : Upd c h w w') {a : Addr} (ha : a.block < w.heap.size) (hn : c ≠ a) : w'.cell? a = w.cell? a := by
 rw [Below.cell u ha]; exact World.cell?_setCell_other w c a _ hn
theorem Upd.frozen {c : Addr} {h : Bool} {w w' : World} (u : Upd c h w w') {a : Addr} (ha : a.block < w.heap.size) : w'.frozen? a = w.frozen? a := by
 rw [Below.frozen u ha]; exact World.frozen?_setCell ..
theorem Upd.refl {c : Addr} {h : Bool} {w : World} (hc : w.cell? c = some (.bool h)) : Upd c h w w := by
 unfold Upd; rw [setCell_self w c _ hc]; exact Below.refl _ _
theorem Upd.set (c : Addr) (h : Bool) (w : World) : Upd c h w (w.setCell c (.bool h)) := Below.refl _ _
/-- Behind a call that leaves what was there. -/
theorem Upd.then {c : Addr} {h : Bool} {w w1 w2 : World} (u : Upd c h w w1) (b : Below w1.heap.size w1 w2) : Upd c h w w2 :=
 Below.trans u (b.mono u.size)
theorem Upd.then' {c : Addr} {h : Bool} {w w1 w2 : World} (u : Upd c h w w1) (b : Below w.heap.size w1 w2) : Upd c h w w2 :=
 Below.trans u b
theorem below_setCell2 {B : Nat} {w w1 : World} (b : Below B w w1) (c : Addr) (v : Value) : Below B (w.setCell c v) (w1.setCell c v) := by
 refine ⟨b.os, b.tape, b.output, by simp [World.setCell]; exact b.size, fun k hk => ?_⟩
 simp only [World.setCell, Array.getElem?_modify]
 rw [b.block k hk]
theorem Upd.after {c : Addr} {h : Bool} {w w1 w2 : World} (b : Below w.heap.size w w1) (u : Upd c h w1 w2) : Upd c h w w2 := by
 have := below_setCell2 b c (.bool h)
 exact this.trans (Below.mono u b.size)
theorem setCell_setCell (w : World) (c : Addr) (v v' : Value) : (w.setCell c v).setCell c v' = w.setCell c v' := by
 unfold World.setCell
 congr 1
 apply Array.ext_getElem?
 intro i
 simp only [Array.getElem?_modify]
 by_cases hi : c.block = i
 ·subst hi
  simp only [if_pos]
  cases w.heap[c.block]? with
  | none => rfl
  | some o =>
   cases o <;> simp only [Option.map_some]
   split <;> simp_all
 ·simp [hi]
theorem Upd.trans {c : Addr} {h h' : Bool} {w w1 w2 : World} (u : Upd c h w w1) (u' : Upd c h' w1 w2) : Upd c h' w w2 := by
 have b := below_setCell2 u c (.bool h')
 rw [setCell_setCell] at b
 exact b.trans (Below.mono u' u.size)
theorem Upd.alloc {c : Addr} {h : Bool} {w w1 : World} (u : Upd c h w w1) (o : Obj) : Upd c h w (w1.alloc o) := u.then' ((Below.refl _ _).alloc u.size o)
theorem Upd.drew {c : Addr} {h : Bool} {w w1 : World} (u : Upd c h w w1) : Upd c h w w1.drew := Below.drew u
theorem Upd.setCell {c : Addr} {h : Bool} {w w1 : World} (u : Upd c h w w1) {p : Addr} (hp : w.heap.size ≤ p.block) (v : Value) : Upd c h w (w1.setCell p v) := u.then' ((Below.refl _ _).setCell hp v)
theorem bcell {W w1 : World} (hb : Below W.heap.size W w1) : (∀ b o, b < W.heap.size → w1.cell? ⟨b, o, none⟩ = W.cell? ⟨b, o, none⟩) ∧ (∀ b o, b < W.heap.size → w1.frozen? ⟨b, o, none⟩ = W.frozen? ⟨b, o, none⟩) :=
 ⟨fun b o h => hb.cell (p := ⟨b, o, none⟩) h, fun b o h => hb.frozen (p := ⟨b, o, none⟩) h⟩
theorem Below.after {w w1 w2 : World} (b : Below w.heap.size w w1) (b' : Below w1.heap.size w1 w2) : Below w.heap.size w w2 := b.trans (b'.mono b.size)
theorem retI {k : IntKind} {a b : Int} (h : a = b) : Ending.returned (.int k a) = .returned (.int k b) := by rw [h]
end Go.Proofs.YtgfklheepkgedaaGreat
/- Plain numbers: what the scalars of package fx come to. No program here. -/
namespace Go.Proofs.YtgfklheepkgedaaGreat

def B64 : Int := 18446744073709551616
/-- The upper and the lower half of a number of 128 bits. -/
def hi64 (x : Int) : Int := x / 18446744073709551616
def lo64 (x : Int) : Int := x % 18446744073709551616
theorem hilo (x : Int) : hi64 x * 18446744073709551616 + lo64 x = x := by unfold hi64 lo64; omega
theorem lo64_bd (x : Int) : 0 ≤ lo64 x ∧ lo64 x < 18446744073709551616 := by unfold lo64; omega
def nt (x : Int) : Int := 18446744073709551615 - x
theorem nt_bd {x : Int} (h0 : 0 ≤ x) (h1 : x < 18446744073709551616) : 0 ≤ nt x ∧ nt x < 18446744073709551616 := by unfold nt; omega
def clampV (a lo hi : Int) : Int := if hi < lo then lo else if a < lo then lo else if hi < a then hi else a
def clampH (a lo hi : Int) : Bool := decide (hi < lo) || (decide (a < lo) || decide (hi < a))
def satV (a : Int) : Int := clampV a (-1152921504606846976) 1152921504606846976
def satH (a : Int) : Bool := clampH a (-1152921504606846976) 1152921504606846976
/-- Divided, rounded: of two the one farther from nought. -/
def rdiv (a d : Int) : Int :=
 if (0 ≤ a) = (0 < d) then (((2 * a.natAbs + d.natAbs) / (2 * d.natAbs) : Nat) : Int) else -(((2 * a.natAbs + d.natAbs) / (2 * d.natAbs) : Nat) : Int)
/-- Divided by 2^s, rounded. -/
def rsh (a : Int) (s : Nat) : Int := rdiv a (2 ^ s)

theorem satV_bd (a : Int) : -1152921504606846976 ≤ satV a ∧ satV a ≤ 1152921504606846976 := by
 unfold satV clampV; repeat' split
 all_goals omega
theorem satV_id {a : Int} (h1 : -1152921504606846976 ≤ a) (h2 : a ≤ 1152921504606846976) : satV a = a := by
 unfold satV clampV; repeat' split
 all_goals omega
theorem satH_no {a : Int} (h1 : -1152921504606846976 ≤ a) (h2 : a ≤ 1152921504606846976) : satH a = false := by
 unfold satH clampH; simp; omega
end Go.Proofs.YtgfklheepkgedaaGreat
/- Contracts of package wide. -/
/- Contracts of package wide (2). -/
/- Contracts of package wide (3). -/
namespace Go.Proofs.YtgfklheepkgedaaGreat
open Go.RowKit

theorem not64 (x : Int) (h0 : 0 ≤ x) (h1 : x < 18446744073709551616) : bits .xor .u64 IntKind.u64.max x = nt x := by
 obtain ⟨a, rfl⟩ := Int.eq_ofNat_of_zero_le h0
 show IntKind.u64.wrap ((BitVec.ofInt 64 IntKind.u64.max ^^^ BitVec.ofInt 64 (a : Int)).toNat : Int) = _
 have h1 : BitVec.ofInt 64 IntKind.u64.max = BitVec.allOnes 64 := by decide
 rw [h1, BitVec.allOnes_xor, BitVec.toNat_not, ofInt_u64 a (by omega), IntKind.wrap_u64]
 unfold nt
 omega
theorem add64 (x y c : Int) (hx : 0 ≤ x) (hy : 0 ≤ y) (hc0 : 0 ≤ c) (hc : c ≤ 1) (w : World) : (callFunc 123 #[.int .u64 x, .int .u64 y, .int .u64 c]).run Tryz.prog w =
  .ok (.value (.tuple #[.int .u64 (lo64 (x + y + c)), .int .u64 (hi64 (x + y + c))])) w := by
 rw [run_callFunc_extern Tryz.func123 (by kernel_rfl) (by kernel_rfl) (by kernel_rfl) (e := add64Entry) (by kernel_rfl), run_add64 x y c hx hy hc0 hc]
 rfl
theorem add64_0 (x y : Int) (hx : 0 ≤ x) (hy : 0 ≤ y) (w : World) : (callFunc 123 #[.int .u64 x, .int .u64 y, .int .u64 0]).run Tryz.prog w =
  .ok (.value (.tuple #[.int .u64 (lo64 (x + y)), .int .u64 (hi64 (x + y))])) w := by
 simpa using add64 x y 0 hx hy (Int.le_refl 0) (by decide) w

theorem abs64_any (a : Int) (w : World) (h1 : -9223372036854775808 ≤ a) (h2 : a < 9223372036854775808) :
  Calls Tryz.prog 106 #[.int .i64 a] w fun e w' => e = .returned (.int .u64 (a.natAbs : Int)) ∧ w = w' := by
 by_cases h : a < 0
 ·go_enter Tryz.func106, Tryz.ntmps106
  go_wp2
  go_ret
  exact ⟨retI (by simp only [IntKind.wrap_u64]; omega), rfl⟩
 ·go_enter Tryz.func106, Tryz.ntmps106
  go_wp2
  go_ret
  exact ⟨retI (by omega), rfl⟩


set_option maxRecDepth 100000
theorem signed_pos (x y : Int) (w : World) (x0 : 0 ≤ x) (x1 : x < 9223372036854775808) :
  Calls Tryz.prog 107 #[.agg #[.int .u64 x, .int .u64 y], .bool false] w fun e w' =>
   e = .returned (.tuple #[.agg #[.int .i64 x, .int .u64 y], .bool true]) ∧ Below w.heap.size w w' := by
 have hd : ((x / 9223372036854775808 : Int) == 0) = true := by rw [beq_iff_eq]; omega
 go_enter Tryz.func107, Tryz.ntmps107
 go_wp2_with fail
 go_region
 go_wp2
 refine bodyPost_ret (v := .tuple #[.agg #[.int .i64 x, .int .u64 y], .bool true]) (by simp [results, Tryz.results107, go_sem]) rfl ⟨rfl, ?_⟩
 (repeat (first | with_reducible exact Below.refl _ _ | with_reducible apply Below.drew | (with_reducible refine below_drewN ?_ _) | (with_reducible refine Below.alloc ?_ (by (try simp) <;> omega) _) | (with_reducible refine Below.setCell ?_ (by (try simp) <;> omega) _)))

theorem neg_parts (x y : Int) (x0 : 0 ≤ x) (x1 : x < 9223372036854775808) (y0 : 0 ≤ y) (y1 : y < 18446744073709551616) :
  wrap64 (IntKind.u64.wrap (nt x + hi64 (nt y + 1))) = hi64 (-(x * B64 + y)) ∧ lo64 (nt y + 1) = lo64 (-(x * B64 + y)) := by
 simp only [IntKind.wrap_u64, wrap64]
 unfold hi64 lo64 nt B64
 omega

theorem signed_neg (x y : Int) (w : World) (x0 : 0 ≤ x) (x1 : x < 9223372036854775808) (y0 : 0 ≤ y) (y1 : y < 18446744073709551616) :
  Calls Tryz.prog 107 #[.agg #[.int .u64 x, .int .u64 y], .bool true] w fun e w' =>
   e = .returned (.tuple #[.agg #[.int .i64 (hi64 (-(x * B64 + y))), .int .u64 (lo64 (-(x * B64 + y)))], .bool true]) ∧ Below w.heap.size w w' := by
 have n1 := not64 y y0 y1
 have n2 := not64 x x0 (by omega)
 have b1 := (nt_bd y0 y1).1
 have a1 := fun w => add64_0 (nt y) 1 b1 (by decide) w
 obtain ⟨e1, e2⟩ := neg_parts x y x0 x1 y0 y1
 by_cases hz : x = 0 ∧ y = 0
 ·obtain ⟨rfl, rfl⟩ := hz
  have z1 : decide (hi64 0 < 0) = false := by simp [hi64]
  go_enter Tryz.func107, Tryz.ntmps107
  go_wp2_with fail
  go_region
  go_wp2
  refine bodyPost_ret (v := .tuple #[.agg #[.int .i64 (hi64 0), .int .u64 (lo64 0)], .bool true]) (by simp [results, Tryz.results107, go_sem]) rfl ⟨by simp, ?_⟩
  (repeat (first | with_reducible exact Below.refl _ _ | with_reducible apply Below.drew | (with_reducible refine below_drewN ?_ _) | (with_reducible refine Below.alloc ?_ (by (try simp) <;> omega) _) | (with_reducible refine Below.setCell ?_ (by (try simp) <;> omega) _)))
 ·have z1 : hi64 (-(x * B64 + y)) < 0 := by unfold hi64 B64; omega
  clear y0 y1
  go_enter Tryz.func107, Tryz.ntmps107
  go_wp2_with fail
  go_region
  go_wp2
  refine bodyPost_ret (v := .tuple #[.agg #[.int .i64 (hi64 (-(x * B64 + y))), .int .u64 (lo64 (-(x * B64 + y)))], .bool true]) (by simp [results, Tryz.results107, go_sem]) rfl ⟨rfl, ?_⟩
  (repeat (first | with_reducible exact Below.refl _ _ | with_reducible apply Below.drew | (with_reducible refine below_drewN ?_ _) | (with_reducible refine Below.alloc ?_ (by (try simp) <;> omega) _) | (with_reducible refine Below.setCell ?_ (by (try simp) <;> omega) _)))

end Go.Proofs.YtgfklheepkgedaaGreat
namespace Go.Proofs.YtgfklheepkgedaaGreat
open Go.RowKit
set_option maxRecDepth 100000
/-- A W. -/
def Wv (x : Int) : Value := .agg #[.int .i64 (hi64 x), .int .u64 (lo64 x)]

theorem abs_pos (x y : Int) (w : World) (x0 : 0 ≤ x) (x1 : x < 9223372036854775808) :
  Calls Tryz.prog 109 #[.agg #[.int .i64 x, .int .u64 y]] w fun e w' =>
   e = .returned (.tuple #[.agg #[.int .u64 x, .int .u64 y], .bool false]) ∧ Below w.heap.size w w' := by
 go_enter Tryz.func109, Tryz.ntmps109
 go_wp2_with fail
 simp [bodyPost, results, Tryz.results109, go_sem]
 (repeat (first | with_reducible exact Below.refl _ _ | with_reducible apply Below.drew | (with_reducible refine below_drewN ?_ _) | (with_reducible refine Below.alloc ?_ (by (try simp) <;> omega) _) | (with_reducible refine Below.setCell ?_ (by (try simp) <;> omega) _)))
theorem abs_neg (x y : Int) (w : World) (x0 : x < 0) (x1 : -9223372036854775808 ≤ x) (y0 : 0 ≤ y) (y1 : y < 18446744073709551616) :
  Calls Tryz.prog 109 #[.agg #[.int .i64 x, .int .u64 y]] w fun e w' =>
   e = .returned (.tuple #[.agg #[.int .u64 (hi64 (-(x * B64 + y))), .int .u64 (lo64 (-(x * B64 + y)))], .bool true]) ∧ Below w.heap.size w w' := by
 have n1 := not64 y y0 y1
 have n2 := not64 (IntKind.u64.wrap x) (by simp only [IntKind.wrap_u64]; omega) (by simp only [IntKind.wrap_u64]; omega)
 have b1 := (nt_bd y0 y1).1
 have a1 := fun w => add64_0 (nt y) 1 b1 (by decide) w
 have hy : 0 ≤ y ∧ y < B64 := ⟨y0, y1⟩
 clear y0 y1
 go_enter Tryz.func109, Tryz.ntmps109
 go_wp2_with fail
 simp [bodyPost, results, Tryz.results109, go_sem]
 refine ⟨?_, ?_⟩
 ·simp only [IntKind.wrap_u64]
  unfold hi64 lo64 nt B64
  clear n1 n2 b1 a1
  obtain ⟨y0, y1⟩ := hy
  unfold B64 at y1
  omega
 ·(repeat (first | with_reducible exact Below.refl _ _ | with_reducible apply Below.drew | (with_reducible refine below_drewN ?_ _) | (with_reducible refine Below.alloc ?_ (by (try simp) <;> omega) _) | (with_reducible refine Below.setCell ?_ (by (try simp) <;> omega) _)))

end Go.Proofs.YtgfklheepkgedaaGreat
namespace Go.Proofs.YtgfklheepkgedaaGreat
open Go.RowKit
set_option maxRecDepth 100000
def s64F (x y : Int) (neg : Bool) : Bool := decide (x = 0) && (if neg then decide (y ≤ 9223372036854775808) else decide (y ≤ 9223372036854775807))
def s64V (x y : Int) (neg : Bool) : Int := if s64F x y neg then (if neg then -y else y) else 0
theorem s64_big {x y : Int} {neg : Bool} (h : ¬ x = 0) : s64F x y neg = false ∧ s64V x y neg = 0 := by
 have : s64F x y neg = false := by simp [s64F, h]
 exact ⟨this, by simp [s64V, this]⟩
theorem s64_in {y : Int} {neg : Bool} (h : y < 9223372036854775808) : s64F 0 y neg = true ∧ s64V 0 y neg = if neg then -y else y := by
 have : s64F 0 y neg = true := by cases neg <;> simp [s64F] <;> omega
 exact ⟨this, by simp [s64V, this]⟩
theorem s64_out {y : Int} {neg : Bool} (h : 9223372036854775808 < y) : s64F 0 y neg = false ∧ s64V 0 y neg = 0 := by
 have : s64F 0 y neg = false := by cases neg <;> simp [s64F] <;> omega
 exact ⟨this, by simp [s64V, this]⟩

theorem signed64_any (x y : Int) (neg : Bool) (w : World) (y0 : 0 ≤ y) (y1 : y < 18446744073709551616) :
  Calls Tryz.prog 112 #[.agg #[.int .u64 x, .int .u64 y], .bool neg] w fun e w' =>
   e = .returned (.tuple #[.int .i64 (s64V x y neg), .bool (s64F x y neg)]) ∧ Below w.heap.size w w' := by
 by_cases hx : x = 0
 ·subst hx
  by_cases h1 : y < 9223372036854775808
  ·obtain ⟨e1, e2⟩ := s64_in (neg := neg) h1
   rw [e1, e2]
   clear e1 e2
   cases neg
   ·have h2 : ¬ 9223372036854775807 < y := by omega
    go_enter Tryz.func112, Tryz.ntmps112
    go_wp2
    simp [bodyPost, results, Tryz.results112, go_sem]
    (repeat (first | with_reducible exact Below.refl _ _ | with_reducible apply Below.drew | (with_reducible refine below_drewN ?_ _) | (with_reducible refine Below.alloc ?_ (by (try simp) <;> omega) _) | (with_reducible refine Below.setCell ?_ (by (try simp) <;> omega) _)))
   ·have h2 : ¬ 9223372036854775808 < y := by omega
    go_enter Tryz.func112, Tryz.ntmps112
    go_wp2
    simp [bodyPost, results, Tryz.results112, go_sem]
    refine ⟨?_, ?_⟩
    ·simp only [IntKind.wrap_u64, wrap64]; omega
    ·(repeat (first | with_reducible exact Below.refl _ _ | with_reducible apply Below.drew | (with_reducible refine below_drewN ?_ _) | (with_reducible refine Below.alloc ?_ (by (try simp) <;> omega) _) | (with_reducible refine Below.setCell ?_ (by (try simp) <;> omega) _)))
  ·by_cases h3 : 9223372036854775808 < y
   ·obtain ⟨e1, e2⟩ := s64_out (neg := neg) h3
    rw [e1, e2]
    clear e1 e2
    cases neg
    ·have h2 : 9223372036854775807 < y := by omega
     go_enter Tryz.func112, Tryz.ntmps112
     go_wp2
     simp [bodyPost, results, Tryz.results112, go_sem]
     (repeat (first | with_reducible exact Below.refl _ _ | with_reducible apply Below.drew | (with_reducible refine below_drewN ?_ _) | (with_reducible refine Below.alloc ?_ (by (try simp) <;> omega) _) | (with_reducible refine Below.setCell ?_ (by (try simp) <;> omega) _)))
    ·go_enter Tryz.func112, Tryz.ntmps112
     go_wp2
     simp [bodyPost, results, Tryz.results112, go_sem]
     (repeat (first | with_reducible exact Below.refl _ _ | with_reducible apply Below.drew | (with_reducible refine below_drewN ?_ _) | (with_reducible refine Below.alloc ?_ (by (try simp) <;> omega) _) | (with_reducible refine Below.setCell ?_ (by (try simp) <;> omega) _)))
   ·have h4 : y = 9223372036854775808 := by omega
    subst h4
    cases neg
    ·have e1 : s64F 0 9223372036854775808 false = false := by decide
     have e2 : s64V 0 9223372036854775808 false = 0 := by decide
     rw [e1, e2]
     clear e1 e2
     go_enter Tryz.func112, Tryz.ntmps112
     go_wp2
     simp [bodyPost, results, Tryz.results112, go_sem]
     (repeat (first | with_reducible exact Below.refl _ _ | with_reducible apply Below.drew | (with_reducible refine below_drewN ?_ _) | (with_reducible refine Below.alloc ?_ (by (try simp) <;> omega) _) | (with_reducible refine Below.setCell ?_ (by (try simp) <;> omega) _)))
    ·have e1 : s64F 0 9223372036854775808 true = true := by decide
     have e2 : s64V 0 9223372036854775808 true = -9223372036854775808 := by decide
     rw [e1, e2]
     clear e1 e2
     go_enter Tryz.func112, Tryz.ntmps112
     go_wp2
     simp [bodyPost, results, Tryz.results112, go_sem]
     refine ⟨?_, ?_⟩
     ·simp only [IntKind.wrap_u64, wrap64]; omega
     ·(repeat (first | with_reducible exact Below.refl _ _ | with_reducible apply Below.drew | (with_reducible refine below_drewN ?_ _) | (with_reducible refine Below.alloc ?_ (by (try simp) <;> omega) _) | (with_reducible refine Below.setCell ?_ (by (try simp) <;> omega) _)))
 ·obtain ⟨e1, e2⟩ := s64_big (y := y) (neg := neg) hx
  rw [e1, e2]
  clear e1 e2
  have hx' : (x == 0) = false := by simpa using hx
  go_enter Tryz.func112, Tryz.ntmps112
  go_wp2
  simp [bodyPost, results, Tryz.results112, go_sem]
  (repeat (first | with_reducible exact Below.refl _ _ | with_reducible apply Below.drew | (with_reducible refine below_drewN ?_ _) | (with_reducible refine Below.alloc ?_ (by (try simp) <;> omega) _) | (with_reducible refine Below.setCell ?_ (by (try simp) <;> omega) _)))
end Go.Proofs.YtgfklheepkgedaaGreat
/- Contracts of package wide (4): shifts and sums of sizes. -/
namespace Go.Proofs.YtgfklheepkgedaaGreat
open Go.RowKit
set_option maxRecDepth 100000

theorem pow_split (s : Nat) (h : s < 64) : 2 ^ s * 2 ^ (64 - s) = 18446744073709551616 := by
 rw [← Nat.pow_add, show s + (64 - s) = 64 from by omega]
theorem shr_hi_eq (x y s : Nat) (_h : s < 64) (_hy : y < 18446744073709551616) : (x * 18446744073709551616 + y) / 2 ^ s / 18446744073709551616 = x / 2 ^ s := by
 rw [Nat.div_div_eq_div_mul, Nat.mul_comm (2 ^ s), ← Nat.div_div_eq_div_mul]
 rw [show (x * 18446744073709551616 + y) / 18446744073709551616 = x from by omega]
theorem shr_lo_eq (x y s : Nat) (h : s < 64) (hy : y < 18446744073709551616) :
    (x * 18446744073709551616 + y) / 2 ^ s % 18446744073709551616 = (x * 2 ^ (64 - s) % 18446744073709551616) ||| (y / 2 ^ s) := by
  have hp : 0 < 2 ^ s := Nat.two_pow_pos s
  have e := pow_split s h
  have e1 : (x * 18446744073709551616 + y) / 2 ^ s = x * 2 ^ (64 - s) + y / 2 ^ s := by
    rw [← e, show x * (2 ^ s * 2 ^ (64 - s)) + y = 2 ^ s * (x * 2 ^ (64 - s)) + y from by rw [Nat.mul_left_comm], Nat.mul_add_div hp]
  have e2 : x * 2 ^ (64 - s) % 18446744073709551616 = 2 ^ (64 - s) * (x % 2 ^ s) := by
    rw [← e, Nat.mul_mod_mul_right, Nat.mul_comm]
  have e3 : y / 2 ^ s < 2 ^ (64 - s) := by
    rw [Nat.div_lt_iff_lt_mul hp, Nat.mul_comm, e]; exact hy
  rw [e1, Nat.add_mod, e2, Nat.mod_eq_of_lt (a := y / 2 ^ s) (by have : 2 ^ (64 - s) ≤ 18446744073709551616 := by rw [← e]; exact Nat.le_mul_of_pos_left _ hp
                                                                 omega)]
  rw [Nat.two_pow_add_eq_or_of_lt e3]
  apply Nat.mod_eq_of_lt
  rw [← Nat.two_pow_add_eq_or_of_lt e3]
  have h1 : x % 2 ^ s + 1 ≤ 2 ^ s := Nat.mod_lt _ hp
  calc 2 ^ (64 - s) * (x % 2 ^ s) + y / 2 ^ s < 2 ^ (64 - s) * (x % 2 ^ s) + 2 ^ (64 - s) := by omega
    _ = 2 ^ (64 - s) * (x % 2 ^ s + 1) := by rw [Nat.mul_add, Nat.mul_one]
    _ ≤ 2 ^ (64 - s) * 2 ^ s := Nat.mul_le_mul_left _ h1
    _ = 18446744073709551616 := by rw [Nat.mul_comm]; exact e

theorem bits_or_u64 (a b : Int) (ha0 : 0 ≤ a) (ha : a < 18446744073709551616) (hb0 : 0 ≤ b) (hb : b < 18446744073709551616) :
  bits .or .u64 a b = ((a.toNat ||| b.toNat : Nat) : Int) := by
 obtain ⟨a, rfl⟩ := Int.eq_ofNat_of_zero_le ha0
 obtain ⟨b, rfl⟩ := Int.eq_ofNat_of_zero_le hb0
 exact bits_or_u64_nat a b (by omega) (by omega)
theorem toNat_div_pow (y : Int) (k : Nat) (h : 0 ≤ y) : (y / 2 ^ k).toNat = y.toNat / 2 ^ k := by
 obtain ⟨y, rfl⟩ := Int.eq_ofNat_of_zero_le h
 have : ((y : Int) / 2 ^ k) = ((y / 2 ^ k : Nat) : Int) := by simp
 rw [this, Int.toNat_natCast, Int.toNat_natCast]
theorem div_pow_bd (y : Int) (k : Nat) (h : 0 ≤ y) (h1 : y < 18446744073709551616) : 0 ≤ y / 2 ^ k ∧ y / 2 ^ k < 18446744073709551616 := by
 obtain ⟨y, rfl⟩ := Int.eq_ofNat_of_zero_le h
 have : ((y : Int) / 2 ^ k) = ((y / 2 ^ k : Nat) : Int) := by simp
 rw [this]
 have := Nat.div_le_self y (2 ^ k)
 generalize y / 2 ^ k = z at *
 omega

/-- A size of 128 bits. -/
theorem shl_any (y s M : Int) (w : World) (y0 : 0 ≤ y) (y1 : y < 18446744073709551616) (s0 : 0 ≤ s) (s1 : s < 128) (hM : y * 2 ^ s.toNat = M) (hlt : M < 340282366920938463463374607431768211456) :
  Calls Tryz.prog 111 #[.agg #[.int .u64 0, .int .u64 y], .int .i64 s] w fun e w' =>
   e = .returned (.agg #[.int .u64 (hi64 M), .int .u64 (lo64 M)]) ∧ Below w.heap.size w w' := by
 have HM := Lib.hid hM
 clear hM
 by_cases h2 : 64 ≤ s
 ·go_enter Tryz.func111, Tryz.ntmps111
  go_wp2
  simp [bodyPost, results, Tryz.results111, go_sem]
  refine ⟨?_, ?_⟩
  ·have hM := HM.out
   obtain ⟨k, rfl⟩ : ∃ k : Nat, s = 64 + k := ⟨(s - 64).toNat, by omega⟩
   simp only [IntKind.wrap_u64]
   rw [show (64 + (k : Int) - 64).toNat = k from by omega]
   rw [show (64 + (k : Int)).toNat = 64 + k from by omega, Int.pow_add] at hM
   have hM' : M = (y * 2 ^ k) * 18446744073709551616 := by rw [← hM, Int.mul_comm (2 ^ 64), ← Int.mul_assoc]; rfl
   have h0 : 0 ≤ y * 2 ^ k := Int.mul_nonneg y0 (Int.le_of_lt (Int.pow_pos (by decide)))
   generalize y * 2 ^ k = z at *
   unfold hi64 lo64
   omega
  ·(repeat (first | with_reducible exact Below.refl _ _ | with_reducible apply Below.drew | (with_reducible refine below_drewN ?_ _) | (with_reducible refine Below.alloc ?_ (by (try simp) <;> omega) _) | (with_reducible refine Below.setCell ?_ (by (try simp) <;> omega) _)))
 ·have h3 : ¬ 64 - s < 0 := by omega
  have hb : bits .or .u64 0 (y / 2 ^ (64 - s).toNat) = hi64 M := by
   have hd := div_pow_bd y (64 - s).toNat y0 y1
   rw [bits_or_u64 _ _ (by decide) (by decide) hd.1 hd.2, toNat_div_pow _ _ y0]
   have hM := HM.out
   obtain ⟨k, rfl⟩ := Int.eq_ofNat_of_zero_le s0
   obtain ⟨y, rfl⟩ := Int.eq_ofNat_of_zero_le y0
   rw [show (64 - (k : Int)).toNat = 64 - k from by omega]
   simp at hM
   have e := pow_split k (by omega)
   have hp : 0 < 2 ^ (64 - k) := Nat.two_pow_pos _
   have : M = ((y * 2 ^ k : Nat) : Int) := by rw [← hM]; simp
   rw [this]
   have e2 : y * 2 ^ k / 18446744073709551616 = y / 2 ^ (64 - k) := by
    rw [← e, Nat.mul_comm y]; exact Nat.mul_div_mul_left _ _ (Nat.two_pow_pos k)
   unfold hi64
   simp only [Int.toNat_natCast, Int.toNat_zero, Nat.zero_or]
   generalize y * 2 ^ k = z at *
   omega
  have HB := Lib.hid hb
  clear hb
  go_enter Tryz.func111, Tryz.ntmps111
  go_wp2
  go_region
  go_wp2
  simp [bodyPost, results, Tryz.results111, go_sem]
  refine ⟨⟨HB.out, ?_⟩, ?_⟩
  ·rw [HM.out, IntKind.wrap_u64]; rfl
  ·(repeat (first | with_reducible exact Below.refl _ _ | with_reducible apply Below.drew | (with_reducible refine below_drewN ?_ _) | (with_reducible refine Below.alloc ?_ (by (try simp) <;> omega) _) | (with_reducible refine Below.setCell ?_ (by (try simp) <;> omega) _)))

theorem shr_any (x y s M R : Int) (w : World) (x0 : 0 ≤ x) (x1 : x < 18446744073709551616) (y0 : 0 ≤ y) (y1 : y < 18446744073709551616) (s0 : 0 ≤ s) (s1 : s < 128)
    (hM : x * 18446744073709551616 + y = M) (hR : M / 2 ^ s.toNat = R) :
    Calls Tryz.prog 113 #[.agg #[.int .u64 x, .int .u64 y], .int .i64 s] w fun e w' =>
      e = .returned (.agg #[.int .u64 (hi64 R), .int .u64 (lo64 R)]) ∧ Below w.heap.size w w' := by
  have HM := Lib.hid hM
  have HR := Lib.hid hR
  clear hM hR
  by_cases h2 : 64 ≤ s
  · have hr : hi64 R = 0 ∧ x / 2 ^ (s - 64).toNat = lo64 R := by
      have hM := HM.out
      have hR := HR.out
      obtain ⟨k, rfl⟩ : ∃ k : Nat, s = 64 + k := ⟨(s - 64).toNat, by omega⟩
      rw [show (64 + (k : Int) - 64).toNat = k from by omega]
      rw [show (64 + (k : Int)).toNat = 64 + k from by omega, Int.pow_add] at hR
      rw [← Int.ediv_ediv_of_nonneg (by decide)] at hR
      have e : M / 2 ^ 64 = x := by have : (2 : Int) ^ 64 = 18446744073709551616 := rfl
                                    rw [this]; omega
      rw [e] at hR
      have hd := div_pow_bd x k x0 x1
      rw [hR] at hd ⊢
      unfold hi64 lo64
      omega
    obtain ⟨hr1, hr2⟩ := hr
    have H1 := Lib.hid hr1
    have H2 := Lib.hid hr2
    clear hr1 hr2
    go_enter Tryz.func113, Tryz.ntmps113
    go_wp2
    simp [bodyPost, results, Tryz.results113, go_sem]
    refine ⟨⟨H1.out.symm, H2.out⟩, ?_⟩
    (repeat (first | with_reducible exact Below.refl _ _ | with_reducible apply Below.drew | (with_reducible refine below_drewN ?_ _) | (with_reducible refine Below.alloc ?_ (by (try simp) <;> omega) _) | (with_reducible refine Below.setCell ?_ (by (try simp) <;> omega) _)))
  · have hr : x / 2 ^ s.toNat = hi64 R ∧ bits .or .u64 (y / 2 ^ s.toNat) (IntKind.u64.wrap (x * 2 ^ (64 - s).toNat)) = lo64 R := by
      have hM := HM.out
      have hR := HR.out
      obtain ⟨k, rfl⟩ := Int.eq_ofNat_of_zero_le s0
      obtain ⟨y, rfl⟩ := Int.eq_ofNat_of_zero_le y0
      obtain ⟨x, rfl⟩ := Int.eq_ofNat_of_zero_le x0
      have hd := div_pow_bd y k y0 y1
      rw [show (64 - (k : Int)).toNat = 64 - k from by omega, IntKind.wrap_u64]
      rw [Int.toNat_natCast] at *
      have e1 := shr_hi_eq x y k (by omega) (by omega)
      have e2 := shr_lo_eq x y k (by omega) (by omega)
      have hR' : R = (((x * 18446744073709551616 + y) / 2 ^ k : Nat) : Int) := by rw [← hR, ← hM]; simp
      have hm : ((x : Int) * 2 ^ (64 - k)) % 18446744073709551616 = ((x * 2 ^ (64 - k) % 18446744073709551616 : Nat) : Int) := by simp
      rw [hm, bits_or_u64 _ _ hd.1 hd.2 (by omega) (by have := Nat.mod_lt (x * 2 ^ (64 - k)) (show 18446744073709551616 > 0 by decide); omega), toNat_div_pow _ _ (by omega), hR']
      refine ⟨?_, ?_⟩
      · unfold hi64
        rw [show ((x : Int) / 2 ^ k) = ((x / 2 ^ k : Nat) : Int) from by simp]
        omega
      · unfold lo64
        rw [Int.toNat_natCast, Int.toNat_natCast, Nat.or_comm]
        omega
    obtain ⟨hr1, hr2⟩ := hr
    have H1 := Lib.hid hr1
    have H2 := Lib.hid hr2
    clear hr1 hr2
    have h3 : ¬ 64 - s < 0 := by omega
    go_enter Tryz.func113, Tryz.ntmps113
    go_wp2
    go_region
    go_wp2
    simp [bodyPost, results, Tryz.results113, go_sem]
    refine ⟨⟨H1.out, H2.out⟩, ?_⟩
    (repeat (first | with_reducible exact Below.refl _ _ | with_reducible apply Below.drew | (with_reducible refine below_drewN ?_ _) | (with_reducible refine Below.alloc ?_ (by (try simp) <;> omega) _) | (with_reducible refine Below.setCell ?_ (by (try simp) <;> omega) _)))

theorem plus_any (x y u v S : Int) (w : World) (x0 : 0 ≤ x) (y0 : 0 ≤ y) (y1 : y < 18446744073709551616) (u0 : 0 ≤ u) (v0 : 0 ≤ v) (v1 : v < 18446744073709551616)
  (hS : (x + u) * 18446744073709551616 + y + v = S) (hlt : S < 340282366920938463463374607431768211456) :
  Calls Tryz.prog 110 #[.agg #[.int .u64 x, .int .u64 y], .agg #[.int .u64 u, .int .u64 v]] w fun e w' =>
   e = .returned (.agg #[.int .u64 (hi64 S), .int .u64 (lo64 S)]) ∧ Below w.heap.size w w' := by
 have a1 := fun w => add64_0 y v y0 v0 w
 have c1 : 0 ≤ hi64 (y + v) ∧ hi64 (y + v) ≤ 1 := by unfold hi64; omega
 have a2 := fun w => add64 x u (hi64 (y + v)) x0 u0 c1.1 c1.2 w
 have hr : lo64 (x + u + hi64 (y + v)) = hi64 S ∧ lo64 (y + v) = lo64 S := by unfold hi64 lo64; omega
 obtain ⟨hr1, hr2⟩ := hr
 have H1 := Lib.hid hr1
 have H2 := Lib.hid hr2
 clear hr1 hr2 hS c1 hlt
 go_enter Tryz.func110, Tryz.ntmps110
 go_wp2_with fail
 simp [bodyPost, results, Tryz.results110, go_sem]
 refine ⟨⟨H1.out, H2.out⟩, ?_⟩
 (repeat (first | with_reducible exact Below.refl _ _ | with_reducible apply Below.drew | (with_reducible refine below_drewN ?_ _) | (with_reducible refine Below.alloc ?_ (by (try simp) <;> omega) _) | (with_reducible refine Below.setCell ?_ (by (try simp) <;> omega) _)))
end Go.Proofs.YtgfklheepkgedaaGreat
/- Contracts of math/bits out of the guide's shelf, laid at this program (by the shelf's own tool). -/
namespace Go.Proofs.YtgfklheepkgedaaGreat
open Go.Shelf
def lays134_ren : Go.Shelf.Ren := ⟨fun | 134 => 128 | 129 => 129 | n => n, fun | 53 => 115 | 3 => 3 | 4 => 4 | 46 => 113 | 5 => 5 | 9 => 9 | n => n, fun | n => n⟩
theorem lays134 : Go.Proofs.Lays.n134 Tryz.prog lays134_ren := {
 mixed := by kernel_rfl
 f129 := Tryz.func129.trans (congrArg some (by kernel_rfl))
 f134 := Tryz.func128.trans (congrArg some (by kernel_rfl))
 t3 := Tryz.underlying3
 a3 := Tryz.isAgg3
 z3 := Tryz.sizeOf3
 v3 := Tryz.zeroValue3
 t4 := Tryz.underlying4
 a4 := Tryz.isAgg4
 z4 := Tryz.sizeOf4
 v4 := Tryz.zeroValue4
 t5 := Tryz.underlying5
 a5 := Tryz.isAgg5
 z5 := Tryz.sizeOf5
 v5 := Tryz.zeroValue5
 t9 := Tryz.underlying9
 a9 := Tryz.isAgg9
 z9 := Tryz.sizeOf9
 v9 := Tryz.zeroValue9
 t46 := Tryz.underlying113
 a46 := Tryz.isAgg113
 z46 := Tryz.sizeOf113
 v46 := Tryz.zeroValue113
 t53 := Tryz.underlying115
 a53 := Tryz.isAgg115
 z53 := Tryz.sizeOf115
 v53 := Tryz.zeroValue115 }
theorem bits_LeadingZeros64 (x : Int) (w : World) (h0 : 0 ≤ x) (h1 : x ≤ 18446744073709551615) :
  Calls Tryz.prog 128 #[.int .u64 x] w fun e w' => e = .returned (.int .i64 (64 - (Lib.bitLen x.toNat : Int))) ∧ w' = w := Any.bits_LeadingZeros64 lays134 x w h0 h1
def lays264_ren : Go.Shelf.Ren := ⟨fun | 264 => 105 | n => n, fun | 53 => 115 | 46 => 113 | n => n, fun | n => n⟩
theorem lays264 : Go.Proofs.Lays.n264 Tryz.prog lays264_ren := {
 mixed := by kernel_rfl
 f264 := Tryz.func105.trans (congrArg some (by kernel_rfl))
 t46 := Tryz.underlying113
 a46 := Tryz.isAgg113
 z46 := Tryz.sizeOf113
 v46 := Tryz.zeroValue113
 t53 := Tryz.underlying115
 a53 := Tryz.isAgg115
 z53 := Tryz.sizeOf115
 v53 := Tryz.zeroValue115 }
open Go.RowKit Go.Lib in
theorem bits_Mul64 (x y : Nat) (hx : x < 18446744073709551616) (hy : y < 18446744073709551616) (w : World) :
  Calls Tryz.prog 105 #[.int .u64 x, .int .u64 y] w fun e w' => e = .returned (.tuple #[.int .u64 ((x * y / 18446744073709551616 : Nat) : Int), .int .u64 ((x * y % 18446744073709551616 : Nat) : Int)]) ∧ w' = w := Any.bits_Mul64 lays264 x y hx hy w
end Go.Proofs.YtgfklheepkgedaaGreat
/- Plain: division of 128 bits by 64, as math/bits does it (Knuth's algorithm D). No program here. -/
namespace Go.Proofs.YtgfklheepkgedaaGreat

theorem kn_mulY (q a b Y : Int) (hY : Y = a * 4294967296 + b) : q * Y = q * a * 4294967296 + q * b := by
 rw [hY, Int.mul_add, Int.mul_assoc]
/-- What holds at a round's head: q is no smaller than the true digit. -/
structure KInv (u v Y a b q r : Int) : Prop where
 sum : q * a + r = u
 ge : (u * 4294967296 + v) / Y ≤ q
 r0 : 0 ≤ r
 r1 : r < 4294967296
 q1 : q ≤ 4294967297
/-- What is known of the divisor's halves and the number's. -/
structure KNum (u v Y a b : Int) : Prop where
 hY : Y = a * 4294967296 + b
 a0 : 2147483648 ≤ a
 a1 : a < 4294967296
 b0 : 0 ≤ b
 b1 : b < 4294967296
 u0 : 0 ≤ u
 u1 : u < Y
 v0 : 0 ≤ v
 v1 : v < 4294967296
theorem KNum.Y0 {u v Y a b : Int} (n : KNum u v Y a b) : 0 < Y := by have := n.hY; have := n.a0; have := n.b0; omega
theorem KNum.Q0 {u v Y a b : Int} (n : KNum u v Y a b) : 0 ≤ (u * 4294967296 + v) / Y := Int.ediv_nonneg (by have := n.u0; have := n.v0; omega) (Int.le_of_lt n.Y0)
theorem KNum.Q1 {u v Y a b : Int} (n : KNum u v Y a b) : (u * 4294967296 + v) / Y < 4294967296 :=
 Int.ediv_lt_of_lt_mul n.Y0 (by have := n.u1; have := n.v1; omega)
theorem KInv.start {u v Y a b : Int} (n : KNum u v Y a b) : KInv u v Y a b (u / a) (u - u / a * a) := by
 have ha : 0 < a := by have := n.a0; omega
 have hm := Int.emod_nonneg u (Int.ne_of_gt ha)
 have hm2 := Int.emod_lt_of_pos u ha
 have hd := Int.mul_ediv_add_emod u a
 rw [Int.mul_comm] at hd
 have hr : u - u / a * a = u % a := by omega
 refine ⟨by omega, ?_, by omega, by have := n.a1; omega, ?_⟩
 ·apply Int.le_of_lt_add_one
  apply Int.ediv_lt_of_lt_mul n.Y0
  rw [kn_mulY (u / a + 1) a b Y n.hY]
  have h1 : (u / a + 1) * a = u / a * a + a := by rw [Int.add_mul, Int.one_mul]
  have h2 : 0 ≤ (u / a + 1) * b := Int.mul_nonneg (by have := Int.ediv_nonneg n.u0 (Int.le_of_lt ha); omega) n.b0
  rw [h1]
  have := n.v1
  omega
 ·apply Int.le_of_lt_add_one
  apply Int.ediv_lt_of_lt_mul ha
  have := n.u1; have := n.hY; have := n.b1; have := n.a0
  omega
theorem kn_key {u v Y a b q r : Int} (n : KNum u v Y a b) (s : q * a + r = u) : u * 4294967296 + v - q * Y = 4294967296 * r + v - q * b := by
 rw [kn_mulY q a b Y n.hY, ← s]
 omega
/-- The test says: too great. -/
theorem KInv.less {u v Y a b q r : Int} (n : KNum u v Y a b) (i : KInv u v Y a b q r) (h : 4294967296 ≤ q ∨ 4294967296 * r + v < q * b) :
  (u * 4294967296 + v) / Y ≤ q - 1 ∧ 1 ≤ q := by
 have hq : (u * 4294967296 + v) / Y ≤ q - 1 := by
  rcases h with h | h
  ·have := n.Q1; omega
  ·have := kn_key n i.sum
   have h2 : (u * 4294967296 + v) / Y < q := Int.ediv_lt_of_lt_mul n.Y0 (by omega)
   omega
 have := n.Q0
 exact ⟨hq, by omega⟩
theorem KInv.next {u v Y a b q r : Int} (n : KNum u v Y a b) (i : KInv u v Y a b q r) (h : 4294967296 ≤ q ∨ 4294967296 * r + v < q * b) (hr : r + a < 4294967296) :
  KInv u v Y a b (q - 1) (r + a) := by
 obtain ⟨h1, _⟩ := i.less n h
 refine ⟨?_, h1, by have := i.r0; have := n.a0; omega, hr, by have := i.q1; omega⟩
 have := i.sum
 rw [Int.sub_mul, Int.one_mul]; omega
theorem KInv.broke {u v Y a b q r : Int} (n : KNum u v Y a b) (i : KInv u v Y a b q r) (h : 4294967296 ≤ q ∨ 4294967296 * r + v < q * b) (hr : 4294967296 ≤ r + a) :
  q - 1 = (u * 4294967296 + v) / Y := by
 obtain ⟨h1, h2⟩ := i.less n h
 have s : (q - 1) * a + (r + a) = u := by have := i.sum; rw [Int.sub_mul, Int.one_mul]; omega
 have k := kn_key n s
 have hb : (q - 1) * b ≤ 4294967296 * b := Int.mul_le_mul_of_nonneg_right (by have := i.q1; omega) n.b0
 have : q - 1 ≤ (u * 4294967296 + v) / Y := Int.le_ediv_of_mul_le n.Y0 (by have := n.b1; have := n.v0; omega)
 omega
theorem KInv.done {u v Y a b q r : Int} (n : KNum u v Y a b) (i : KInv u v Y a b q r) (h : ¬ 4294967296 * r + v < q * b) : q = (u * 4294967296 + v) / Y := by
 have k := kn_key n i.sum
 have : q ≤ (u * 4294967296 + v) / Y := Int.le_ediv_of_mul_le n.Y0 (by omega)
 have := i.ge
 omega
theorem KInv.q0 {u v Y a b q r : Int} (n : KNum u v Y a b) (i : KInv u v Y a b q r) : 0 ≤ q := by have := n.Q0; have := i.ge; omega
theorem KInv.qb {u v Y a b q r : Int} (n : KNum u v Y a b) (i : KInv u v Y a b q r) (h : ¬ 4294967296 ≤ q) : 0 ≤ q * b ∧ q * b < 18446744073709551616 := by
 have := i.q0 n
 refine ⟨Int.mul_nonneg this n.b0, ?_⟩
 have h1 : q * b ≤ 4294967295 * b := Int.mul_le_mul_of_nonneg_right (by omega) n.b0
 have := n.b1
 omega
end Go.Proofs.YtgfklheepkgedaaGreat
/- Contract of math/bits.Div64. -/
namespace Go.Proofs.YtgfklheepkgedaaGreat
open Go.RowKit
set_option maxRecDepth 100000
set_option maxHeartbeats 1000000 in
theorem div64_big (x y d s Y a b u v v1 v0 q r u2 q2 r2 Q1 Q2 t1 t2 t3 t4 t5 R : Int) (w : World) (x0 : 0 < x) (x1 : x < d)
  (s0 : 0 ≤ s) (s1 : s < 64)
  (lz : ∀ w, Calls Tryz.prog 128 #[.int .u64 d] w fun e w' => e = .returned (.int .i64 s) ∧ w = w')
  (e1 : IntKind.u64.wrap (d * 2 ^ s.toNat) = Y) (e2 : Y / 4294967296 = a) (a0 : 0 < a) (e3 : bits .and .u64 Y 4294967295 = b)
  (e4 : bits .or .u64 (IntKind.u64.wrap (x * 2 ^ s.toNat)) (y / 2 ^ (64 - s).toNat) = u) (e5 : IntKind.u64.wrap (y * 2 ^ s.toNat) = v)
  (e6 : v / 4294967296 = v1) (e7 : bits .and .u64 v 4294967295 = v0) (e8 : IntKind.u64.wrap (u.tdiv a) = q) (e9 : IntKind.u64.wrap (u - IntKind.u64.wrap (q * a)) = r)
  (n1 : KNum u v1 Y a b) (i1 : KInv u v1 Y a b q r) (hQ1 : Hid ((u * 4294967296 + v1) / Y = Q1))
  (f1 : IntKind.u64.wrap (IntKind.u64.wrap (u * 4294967296) + v1) = t1) (f2 : IntKind.u64.wrap (Q1 * Y) = t2) (f3 : IntKind.u64.wrap (t1 - t2) = u2)
  (f4 : IntKind.u64.wrap (u2.tdiv a) = q2) (f5 : IntKind.u64.wrap (u2 - IntKind.u64.wrap (q2 * a)) = r2)
  (n2 : KNum u2 v0 Y a b) (i2 : KInv u2 v0 Y a b q2 r2) (hQ2 : Hid ((u2 * 4294967296 + v0) / Y = Q2))
  (g1 : IntKind.u64.wrap (IntKind.u64.wrap (Q1 * 4294967296) + Q2) = t3) (g2 : IntKind.u64.wrap (IntKind.u64.wrap (u2 * 4294967296) + v0) = t4)
  (g3 : IntKind.u64.wrap (t4 - IntKind.u64.wrap (Q2 * Y)) = t5) (g4 : t5 / 2 ^ s.toNat = R)
  :
  Calls Tryz.prog 126 #[.int .u64 x, .int .u64 y, .int .u64 d] w fun e w' => e = .returned (.tuple #[.int .u64 t3, .int .u64 R]) ∧ w = w' := by
 have c1 : ¬ d ≤ x := by omega
 have c2 : (d == 0) = false := by simp; omega
 have c3 : (x == 0) = false := by simp; omega
 have N1 := Lib.hid n1
 have N2 := Lib.hid n2
 have I1 := Lib.hid i1
 have I2 := Lib.hid i2
 clear n1 n2 i1 i2
 go_enter Tryz.func126, Tryz.ntmps126
 go_wp2_with (go_at_call 128; refine (lz _).mono ?_; rintro e w' ⟨rfl, rfl⟩)
 go_loop [15, 16] (fun A B => ∃ q r : Int, A = .int .u64 q ∧ B = .int .u64 r ∧ Hid (KInv u v1 Y a b q r)) (fun A _ => (intOf A).toNat)
 case atStart => exact ⟨_, _, rfl, rfl, I1⟩
 case round =>
  obtain ⟨q, r, rfl, rfl, I⟩ := hrel
  by_cases h1 : 4294967296 ≤ q
  ·have H := Lib.hid (Or.inl h1 : 4294967296 ≤ q ∨ 4294967296 * r + v1 < q * b)
   have hl := I.out.less N1.out H.out
   have hqb := I.out.q1
   have hr0 := I.out.r0
   have hr1 := I.out.r1
   have ha1 := N1.out.a1
   by_cases hr : r + a < 4294967296
   ·have nx := Lib.hid (I.out.next N1.out H.out hr)
    obtain ⟨q', hq'⟩ : ∃ q' : Int, q - 1 = q' := ⟨_, rfl⟩
    obtain ⟨r', hr'⟩ : ∃ r' : Int, r + a = r' := ⟨_, rfl⟩
    rw [hq', hr'] at nx
    have w1 : IntKind.u64.wrap (q - 1) = q' := by rw [IntKind.wrap_u64]; omega
    have w2 : IntKind.u64.wrap (r + a) = r' := by rw [IntKind.wrap_u64]; omega
    have w3 : ¬ 4294967296 ≤ r' := by omega
    have hm : q'.toNat < q.toNat := by omega
    have M := Lib.hid hm
    clear hl hqb hr0 hr1 ha1 hr hq' hr' hm
    go_wp2
    go_round
    case rel => exact ⟨q', r', rfl, rfl, nx⟩
    case measure => (have hm := M.out; simp [intOf]; omega)
   ·have bk := (I.out.broke N1.out H.out (by omega)).trans hQ1.out
    obtain ⟨r', hr'⟩ : ∃ r' : Int, r + a = r' := ⟨_, rfl⟩
    have w1 : IntKind.u64.wrap (q - 1) = Q1 := by rw [IntKind.wrap_u64]; omega
    have w2 : IntKind.u64.wrap (r + a) = r' := by rw [IntKind.wrap_u64]; omega
    have w3 : 4294967296 ≤ r' := by omega
    clear hl hqb hr0 hr1 ha1 hr hr' bk
    go_wp2
    go_loop [18, 16] (fun A B => ∃ q r : Int, A = .int .u64 q ∧ B = .int .u64 r ∧ Hid (KInv u2 v0 Y a b q r)) (fun A _ => (intOf A).toNat)
    case atStart => exact ⟨_, _, rfl, rfl, I2⟩
    case round =>
     obtain ⟨q, r, rfl, rfl, I⟩ := hrel
     by_cases h1 : 4294967296 ≤ q
     ·have H := Lib.hid (Or.inl h1 : 4294967296 ≤ q ∨ 4294967296 * r + v0 < q * b)
      have hl := I.out.less N2.out H.out
      have hqb := I.out.q1
      have hr0 := I.out.r0
      have hr1 := I.out.r1
      have ha1 := N2.out.a1
      by_cases hr : r + a < 4294967296
      ·have nx := Lib.hid (I.out.next N2.out H.out hr)
       obtain ⟨q', hq'⟩ : ∃ q' : Int, q - 1 = q' := ⟨_, rfl⟩
       obtain ⟨r', hr'⟩ : ∃ r' : Int, r + a = r' := ⟨_, rfl⟩
       rw [hq', hr'] at nx
       have w1 : IntKind.u64.wrap (q - 1) = q' := by rw [IntKind.wrap_u64]; omega
       have w2 : IntKind.u64.wrap (r + a) = r' := by rw [IntKind.wrap_u64]; omega
       have w3 : ¬ 4294967296 ≤ r' := by omega
       have hm : q'.toNat < q.toNat := by omega
       have M := Lib.hid hm
       clear hl hqb hr0 hr1 ha1 hr hq' hr' hm
       go_wp2
       go_round
       case rel => exact ⟨q', r', rfl, rfl, nx⟩
       case measure => (have hm := M.out; simp [intOf]; omega)
      ·have bk := (I.out.broke N2.out H.out (by omega)).trans hQ2.out
       obtain ⟨r', hr'⟩ : ∃ r' : Int, r + a = r' := ⟨_, rfl⟩
       have w1 : IntKind.u64.wrap (q - 1) = Q2 := by rw [IntKind.wrap_u64]; omega
       have w2 : IntKind.u64.wrap (r + a) = r' := by rw [IntKind.wrap_u64]; omega
       have w3 : 4294967296 ≤ r' := by omega
       clear hl hqb hr0 hr1 ha1 hr hr' bk
       go_wp2
       go_ret2
       exact ⟨rfl, rfl⟩
     ·obtain ⟨k0, k1⟩ := I.out.qb N2.out h1
      have k2 := I.out.r0
      have k3 := I.out.r1
      have k4 := N2.out.v0
      have k5 := N2.out.v1
      obtain ⟨x1, hx1⟩ : ∃ x1 : Int, q * b = x1 := ⟨_, rfl⟩
      obtain ⟨x2, hx2⟩ : ∃ x2 : Int, 4294967296 * r + v0 = x2 := ⟨_, rfl⟩
      have w5 : IntKind.u64.wrap (q * b) = x1 := by rw [IntKind.wrap_u64]; omega
      have w6 : IntKind.u64.wrap (IntKind.u64.wrap (4294967296 * r) + v0) = x2 := by simp only [IntKind.wrap_u64]; omega
      by_cases h2 : x2 < x1
      ·have H := Lib.hid (Or.inr (by omega) : 4294967296 ≤ q ∨ 4294967296 * r + v0 < q * b)
       clear k0 k1 k2 k3 k4 k5 hx1 hx2
       have hl := I.out.less N2.out H.out
       have hqb := I.out.q1
       have hr0 := I.out.r0
       have hr1 := I.out.r1
       have ha1 := N2.out.a1
       by_cases hr : r + a < 4294967296
       ·have nx := Lib.hid (I.out.next N2.out H.out hr)
        obtain ⟨q', hq'⟩ : ∃ q' : Int, q - 1 = q' := ⟨_, rfl⟩
        obtain ⟨r', hr'⟩ : ∃ r' : Int, r + a = r' := ⟨_, rfl⟩
        rw [hq', hr'] at nx
        have w1 : IntKind.u64.wrap (q - 1) = q' := by rw [IntKind.wrap_u64]; omega
        have w2 : IntKind.u64.wrap (r + a) = r' := by rw [IntKind.wrap_u64]; omega
        have w3 : ¬ 4294967296 ≤ r' := by omega
        have hm : q'.toNat < q.toNat := by omega
        have M := Lib.hid hm
        clear hl hqb hr0 hr1 ha1 hr hq' hr' hm
        go_wp2
        go_round
        case rel => exact ⟨q', r', rfl, rfl, nx⟩
        case measure => (have hm := M.out; simp [intOf]; omega)
       ·have bk := (I.out.broke N2.out H.out (by omega)).trans hQ2.out
        obtain ⟨r', hr'⟩ : ∃ r' : Int, r + a = r' := ⟨_, rfl⟩
        have w1 : IntKind.u64.wrap (q - 1) = Q2 := by rw [IntKind.wrap_u64]; omega
        have w2 : IntKind.u64.wrap (r + a) = r' := by rw [IntKind.wrap_u64]; omega
        have w3 : 4294967296 ≤ r' := by omega
        clear hl hqb hr0 hr1 ha1 hr hr' bk
        go_wp2
        go_ret2
        exact ⟨rfl, rfl⟩
      ·have dn := (I.out.done N2.out (by omega)).trans hQ2.out
       subst dn
       clear k0 k1 k2 k3 k4 k5 hx1 hx2
       go_wp2
       go_ret2
       exact ⟨rfl, rfl⟩
  ·obtain ⟨k0, k1⟩ := I.out.qb N1.out h1
   have k2 := I.out.r0
   have k3 := I.out.r1
   have k4 := N1.out.v0
   have k5 := N1.out.v1
   obtain ⟨x1, hx1⟩ : ∃ x1 : Int, q * b = x1 := ⟨_, rfl⟩
   obtain ⟨x2, hx2⟩ : ∃ x2 : Int, 4294967296 * r + v1 = x2 := ⟨_, rfl⟩
   have w5 : IntKind.u64.wrap (q * b) = x1 := by rw [IntKind.wrap_u64]; omega
   have w6 : IntKind.u64.wrap (IntKind.u64.wrap (4294967296 * r) + v1) = x2 := by simp only [IntKind.wrap_u64]; omega
   by_cases h2 : x2 < x1
   ·have H := Lib.hid (Or.inr (by omega) : 4294967296 ≤ q ∨ 4294967296 * r + v1 < q * b)
    clear k0 k1 k2 k3 k4 k5 hx1 hx2
    have hl := I.out.less N1.out H.out
    have hqb := I.out.q1
    have hr0 := I.out.r0
    have hr1 := I.out.r1
    have ha1 := N1.out.a1
    by_cases hr : r + a < 4294967296
    ·have nx := Lib.hid (I.out.next N1.out H.out hr)
     obtain ⟨q', hq'⟩ : ∃ q' : Int, q - 1 = q' := ⟨_, rfl⟩
     obtain ⟨r', hr'⟩ : ∃ r' : Int, r + a = r' := ⟨_, rfl⟩
     rw [hq', hr'] at nx
     have w1 : IntKind.u64.wrap (q - 1) = q' := by rw [IntKind.wrap_u64]; omega
     have w2 : IntKind.u64.wrap (r + a) = r' := by rw [IntKind.wrap_u64]; omega
     have w3 : ¬ 4294967296 ≤ r' := by omega
     have hm : q'.toNat < q.toNat := by omega
     have M := Lib.hid hm
     clear hl hqb hr0 hr1 ha1 hr hq' hr' hm
     go_wp2
     go_round
     case rel => exact ⟨q', r', rfl, rfl, nx⟩
     case measure => (have hm := M.out; simp [intOf]; omega)
    ·have bk := (I.out.broke N1.out H.out (by omega)).trans hQ1.out
     obtain ⟨r', hr'⟩ : ∃ r' : Int, r + a = r' := ⟨_, rfl⟩
     have w1 : IntKind.u64.wrap (q - 1) = Q1 := by rw [IntKind.wrap_u64]; omega
     have w2 : IntKind.u64.wrap (r + a) = r' := by rw [IntKind.wrap_u64]; omega
     have w3 : 4294967296 ≤ r' := by omega
     clear hl hqb hr0 hr1 ha1 hr hr' bk
     go_wp2
     go_loop [18, 16] (fun A B => ∃ q r : Int, A = .int .u64 q ∧ B = .int .u64 r ∧ Hid (KInv u2 v0 Y a b q r)) (fun A _ => (intOf A).toNat)
     case atStart => exact ⟨_, _, rfl, rfl, I2⟩
     case round =>
      obtain ⟨q, r, rfl, rfl, I⟩ := hrel
      by_cases h1 : 4294967296 ≤ q
      ·have H := Lib.hid (Or.inl h1 : 4294967296 ≤ q ∨ 4294967296 * r + v0 < q * b)
       have hl := I.out.less N2.out H.out
       have hqb := I.out.q1
       have hr0 := I.out.r0
       have hr1 := I.out.r1
       have ha1 := N2.out.a1
       by_cases hr : r + a < 4294967296
       ·have nx := Lib.hid (I.out.next N2.out H.out hr)
        obtain ⟨q', hq'⟩ : ∃ q' : Int, q - 1 = q' := ⟨_, rfl⟩
        obtain ⟨r', hr'⟩ : ∃ r' : Int, r + a = r' := ⟨_, rfl⟩
        rw [hq', hr'] at nx
        have w1 : IntKind.u64.wrap (q - 1) = q' := by rw [IntKind.wrap_u64]; omega
        have w2 : IntKind.u64.wrap (r + a) = r' := by rw [IntKind.wrap_u64]; omega
        have w3 : ¬ 4294967296 ≤ r' := by omega
        have hm : q'.toNat < q.toNat := by omega
        have M := Lib.hid hm
        clear hl hqb hr0 hr1 ha1 hr hq' hr' hm
        go_wp2
        go_round
        case rel => exact ⟨q', r', rfl, rfl, nx⟩
        case measure => (have hm := M.out; simp [intOf]; omega)
       ·have bk := (I.out.broke N2.out H.out (by omega)).trans hQ2.out
        obtain ⟨r', hr'⟩ : ∃ r' : Int, r + a = r' := ⟨_, rfl⟩
        have w1 : IntKind.u64.wrap (q - 1) = Q2 := by rw [IntKind.wrap_u64]; omega
        have w2 : IntKind.u64.wrap (r + a) = r' := by rw [IntKind.wrap_u64]; omega
        have w3 : 4294967296 ≤ r' := by omega
        clear hl hqb hr0 hr1 ha1 hr hr' bk
        go_wp2
        go_ret2
        exact ⟨rfl, rfl⟩
      ·obtain ⟨k0, k1⟩ := I.out.qb N2.out h1
       have k2 := I.out.r0
       have k3 := I.out.r1
       have k4 := N2.out.v0
       have k5 := N2.out.v1
       obtain ⟨x1, hx1⟩ : ∃ x1 : Int, q * b = x1 := ⟨_, rfl⟩
       obtain ⟨x2, hx2⟩ : ∃ x2 : Int, 4294967296 * r + v0 = x2 := ⟨_, rfl⟩
       have w5 : IntKind.u64.wrap (q * b) = x1 := by rw [IntKind.wrap_u64]; omega
       have w6 : IntKind.u64.wrap (IntKind.u64.wrap (4294967296 * r) + v0) = x2 := by simp only [IntKind.wrap_u64]; omega
       by_cases h2 : x2 < x1
       ·have H := Lib.hid (Or.inr (by omega) : 4294967296 ≤ q ∨ 4294967296 * r + v0 < q * b)
        clear k0 k1 k2 k3 k4 k5 hx1 hx2
        have hl := I.out.less N2.out H.out
        have hqb := I.out.q1
        have hr0 := I.out.r0
        have hr1 := I.out.r1
        have ha1 := N2.out.a1
        by_cases hr : r + a < 4294967296
        ·have nx := Lib.hid (I.out.next N2.out H.out hr)
         obtain ⟨q', hq'⟩ : ∃ q' : Int, q - 1 = q' := ⟨_, rfl⟩
         obtain ⟨r', hr'⟩ : ∃ r' : Int, r + a = r' := ⟨_, rfl⟩
         rw [hq', hr'] at nx
         have w1 : IntKind.u64.wrap (q - 1) = q' := by rw [IntKind.wrap_u64]; omega
         have w2 : IntKind.u64.wrap (r + a) = r' := by rw [IntKind.wrap_u64]; omega
         have w3 : ¬ 4294967296 ≤ r' := by omega
         have hm : q'.toNat < q.toNat := by omega
         have M := Lib.hid hm
         clear hl hqb hr0 hr1 ha1 hr hq' hr' hm
         go_wp2
         go_round
         case rel => exact ⟨q', r', rfl, rfl, nx⟩
         case measure => (have hm := M.out; simp [intOf]; omega)
        ·have bk := (I.out.broke N2.out H.out (by omega)).trans hQ2.out
         obtain ⟨r', hr'⟩ : ∃ r' : Int, r + a = r' := ⟨_, rfl⟩
         have w1 : IntKind.u64.wrap (q - 1) = Q2 := by rw [IntKind.wrap_u64]; omega
         have w2 : IntKind.u64.wrap (r + a) = r' := by rw [IntKind.wrap_u64]; omega
         have w3 : 4294967296 ≤ r' := by omega
         clear hl hqb hr0 hr1 ha1 hr hr' bk
         go_wp2
         go_ret2
         exact ⟨rfl, rfl⟩
       ·have dn := (I.out.done N2.out (by omega)).trans hQ2.out
        subst dn
        clear k0 k1 k2 k3 k4 k5 hx1 hx2
        go_wp2
        go_ret2
        exact ⟨rfl, rfl⟩
   ·have dn := (I.out.done N1.out (by omega)).trans hQ1.out
    subst dn
    clear k0 k1 k2 k3 k4 k5 hx1 hx2
    go_wp2
    go_loop [18, 16] (fun A B => ∃ q r : Int, A = .int .u64 q ∧ B = .int .u64 r ∧ Hid (KInv u2 v0 Y a b q r)) (fun A _ => (intOf A).toNat)
    case atStart => exact ⟨_, _, rfl, rfl, I2⟩
    case round =>
     obtain ⟨q, r, rfl, rfl, I⟩ := hrel
     by_cases h1 : 4294967296 ≤ q
     ·have H := Lib.hid (Or.inl h1 : 4294967296 ≤ q ∨ 4294967296 * r + v0 < q * b)
      have hl := I.out.less N2.out H.out
      have hqb := I.out.q1
      have hr0 := I.out.r0
      have hr1 := I.out.r1
      have ha1 := N2.out.a1
      by_cases hr : r + a < 4294967296
      ·have nx := Lib.hid (I.out.next N2.out H.out hr)
       obtain ⟨q', hq'⟩ : ∃ q' : Int, q - 1 = q' := ⟨_, rfl⟩
       obtain ⟨r', hr'⟩ : ∃ r' : Int, r + a = r' := ⟨_, rfl⟩
       rw [hq', hr'] at nx
       have w1 : IntKind.u64.wrap (q - 1) = q' := by rw [IntKind.wrap_u64]; omega
       have w2 : IntKind.u64.wrap (r + a) = r' := by rw [IntKind.wrap_u64]; omega
       have w3 : ¬ 4294967296 ≤ r' := by omega
       have hm : q'.toNat < q.toNat := by omega
       have M := Lib.hid hm
       clear hl hqb hr0 hr1 ha1 hr hq' hr' hm
       go_wp2
       go_round
       case rel => exact ⟨q', r', rfl, rfl, nx⟩
       case measure => (have hm := M.out; simp [intOf]; omega)
      ·have bk := (I.out.broke N2.out H.out (by omega)).trans hQ2.out
       obtain ⟨r', hr'⟩ : ∃ r' : Int, r + a = r' := ⟨_, rfl⟩
       have w1 : IntKind.u64.wrap (q - 1) = Q2 := by rw [IntKind.wrap_u64]; omega
       have w2 : IntKind.u64.wrap (r + a) = r' := by rw [IntKind.wrap_u64]; omega
       have w3 : 4294967296 ≤ r' := by omega
       clear hl hqb hr0 hr1 ha1 hr hr' bk
       go_wp2
       go_ret2
       exact ⟨rfl, rfl⟩
     ·obtain ⟨k0, k1⟩ := I.out.qb N2.out h1
      have k2 := I.out.r0
      have k3 := I.out.r1
      have k4 := N2.out.v0
      have k5 := N2.out.v1
      obtain ⟨x1, hx1⟩ : ∃ x1 : Int, q * b = x1 := ⟨_, rfl⟩
      obtain ⟨x2, hx2⟩ : ∃ x2 : Int, 4294967296 * r + v0 = x2 := ⟨_, rfl⟩
      have w5 : IntKind.u64.wrap (q * b) = x1 := by rw [IntKind.wrap_u64]; omega
      have w6 : IntKind.u64.wrap (IntKind.u64.wrap (4294967296 * r) + v0) = x2 := by simp only [IntKind.wrap_u64]; omega
      by_cases h2 : x2 < x1
      ·have H := Lib.hid (Or.inr (by omega) : 4294967296 ≤ q ∨ 4294967296 * r + v0 < q * b)
       clear k0 k1 k2 k3 k4 k5 hx1 hx2
       have hl := I.out.less N2.out H.out
       have hqb := I.out.q1
       have hr0 := I.out.r0
       have hr1 := I.out.r1
       have ha1 := N2.out.a1
       by_cases hr : r + a < 4294967296
       ·have nx := Lib.hid (I.out.next N2.out H.out hr)
        obtain ⟨q', hq'⟩ : ∃ q' : Int, q - 1 = q' := ⟨_, rfl⟩
        obtain ⟨r', hr'⟩ : ∃ r' : Int, r + a = r' := ⟨_, rfl⟩
        rw [hq', hr'] at nx
        have w1 : IntKind.u64.wrap (q - 1) = q' := by rw [IntKind.wrap_u64]; omega
        have w2 : IntKind.u64.wrap (r + a) = r' := by rw [IntKind.wrap_u64]; omega
        have w3 : ¬ 4294967296 ≤ r' := by omega
        have hm : q'.toNat < q.toNat := by omega
        have M := Lib.hid hm
        clear hl hqb hr0 hr1 ha1 hr hq' hr' hm
        go_wp2
        go_round
        case rel => exact ⟨q', r', rfl, rfl, nx⟩
        case measure => (have hm := M.out; simp [intOf]; omega)
       ·have bk := (I.out.broke N2.out H.out (by omega)).trans hQ2.out
        obtain ⟨r', hr'⟩ : ∃ r' : Int, r + a = r' := ⟨_, rfl⟩
        have w1 : IntKind.u64.wrap (q - 1) = Q2 := by rw [IntKind.wrap_u64]; omega
        have w2 : IntKind.u64.wrap (r + a) = r' := by rw [IntKind.wrap_u64]; omega
        have w3 : 4294967296 ≤ r' := by omega
        clear hl hqb hr0 hr1 ha1 hr hr' bk
        go_wp2
        go_ret2
        exact ⟨rfl, rfl⟩
      ·have dn := (I.out.done N2.out (by omega)).trans hQ2.out
       subst dn
       clear k0 k1 k2 k3 k4 k5 hx1 hx2
       go_wp2
       go_ret2
       exact ⟨rfl, rfl⟩
end Go.Proofs.YtgfklheepkgedaaGreat
