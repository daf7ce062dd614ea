/- Contracts of the program's functions and plain laws, part 11: they hold for all arguments. -/
import Derived.Test.YtgfklheepkgedaaGreatQ10
import Derived.Test.YtgfklheepkgedaaGreatQ04
import Derived.Laws.CopyOwn
import Derived.Test.YtgfklheepkgedaaGreatQ09
import Derived.Test.YtgfklheepkgedaaGreatQ03
import Derived.Test.YtgfklheepkgedaaGreatQ06
/- Contract of tri.New: noughts above the diagonal, the variances given, and the least variance where none is given. -/
namespace Go.Proofs.YtgfklheepkgedaaGreat
open Go.RowKit
set_option maxRecDepth 100000
def newF (n : Nat) (L : Nat → Int) : Nat → Int := fun i => if i < 276 then 0 else if i - 276 < n then varV (L (i - 276)) else 1
def newB (n : Nat) (L : Nat → Int) (i : Nat) : Bool := if i < n then varH (L i) else false
def newH (n : Nat) (L : Nat → Int) : Bool := orB (newB n L) 24
def newI (n : Nat) (L : Nat → Int) (k : Nat) : Nat → Int := fun i => if i < 276 then 0 else if i < 276 + k then (if i - 276 < n then varV (L (i - 276)) else 1) else 0
theorem new_any (c : Addr) (h : Bool) (p : Option Addr) (n cp : Nat) (L : Nat → Int) (w : World) (hc : w.cell? c = some (.bool h)) (hf : w.frozen? c = false) (hL : Slc w p n L) :
  Calls Tryz.prog 17 #[.pointer (some c), .slice p n cp] w fun e w' => e = .returned (.agg (arrv 300 (newF n L))) ∧ Upd c (h || newH n L) w w' := by
 have hcb := World.block_lt_of_cell? w c hc
 have HC := Lib.hid hc
 have HF := Lib.hid hf
 have HL := Lib.hid hL
 clear hc hf hL
 go_enter Tryz.func17, Tryz.ntmps17
 go_wp2_with fail
 go_loopw [7] (fun i wr => ∃ k : Nat, k ≤ 24 ∧ i = .int .i64 k ∧ Hid (Upd c (h || orB (newB n L) k) w wr ∧ Blk wr w.heap.size 26 300 (fun _ => 0) ∧ Blk wr (w.heap.size + 1) 26 300 (newI n L k))) (fun i _ => 24 - (intOf i).toNat)
 case atStart =>
  refine ⟨0, by omega, rfl, ?_, ?_, ?_⟩
  ·rw [show (h || orB (newB n L) 0) = h from by simp [orB]]
   exact Upd.then (Upd.refl HC.out) (by (repeat (first | with_reducible exact Below.refl _ _ | with_reducible apply Below.drew | (with_reducible refine below_drewN ?_ _) | (with_reducible refine Below.alloc ?_ (by (try simp) <;> omega) _) | (with_reducible refine Below.setCell ?_ (by (try simp) <;> omega) _))))
  ·rw [zcov]; exact (Blk.new w _ _ _).alloc _
  ·rw [zcov]; exact (Blk.new1 w _ _ _ _).congr fun i hi => by simp only [newI]; split <;> first | rfl | (rw [if_neg (by omega)])
 case round =>
  obtain ⟨k, hk, rfl, R⟩ := hrel
  by_cases hlt : k < 24
  ·have d1 : decide ((k : Int) < 24) = true := by simp; omega
   have b0 := R.out.2.2.cell (i := 276 + k) (by omega)
   have b1 := R.out.2.2.free (276 + k)
   by_cases hkn : k < n
   ·have d2 : decide ((k : Int) < (n : Int)) = true := by simp; omega
    obtain ⟨pb, po, rfl, hcell⟩ := HL.out k hkn
    have hne : (⟨pb, po + k, none⟩ : Addr) ≠ c := fun e => by rw [e, HC.out] at hcell; cases hcell
    have hpl := World.block_lt_of_cell? _ _ hcell
    have U1 : Upd c (h || orB (newB n L) k) w (wr.setCell ⟨w.heap.size + 1, 276 + k, none⟩ (.int .i64 1)) := R.out.1.setCell (by simp) _
    have rc := U1.cellc HC.out
    have rf := (U1.frozen hcb).trans HF.out
    have hcell' : wr.cell? ⟨pb, po + k, none⟩ = some (.int .i64 (L k)) := (R.out.1.cell hpl (Ne.symm hne)).trans hcell
    have hpn : pb ≠ w.heap.size + 1 := by simp at hpl; omega
    have hcell2 : (wr.setCell ⟨w.heap.size + 1, 276 + k, none⟩ (.int .i64 1)).cell? ⟨pb, po + k, none⟩ = some (.int .i64 (L k)) := (World.cell?_setCell_other _ _ _ _ (by intro e; injection e; omega)).trans hcell'
    have CC := Lib.hid (variance_any c _ (L k) _ rc rf)
    have S0 := Lib.hid (R.out.2.2.set (276 + k) 1)
    have T0 := Lib.hid (R.out.2.1.other (a := ⟨w.heap.size + 1, 276 + k, none⟩) (by simp) (.int .i64 1))
    have HU1 := Lib.hid U1
    clear U1 rc rf hcell' R
    go_wp2_with (go_at_call 39; refine CC.out.mono ?_; rintro e w' ⟨rfl, hw'⟩; have U3 := (Upd.set c (h || orB (newB n L) k || varH (L k)) (wr.setCell ⟨w.heap.size + 1, 276 + k, none⟩ (.int .i64 1))).then (by rw [show varH (L k) = clampH (L k) 1 72057594037927936 from rfl, hw']; exact Below.refl _ _); have HU2 := Lib.hid (HU1.out.trans U3); have S2 := S0.out.upd U3 (by have := hcb; omega); have HR2 := Lib.hid (T0.out.upd U3 (by have := hcb; omega)); have c0 := S2.cell (i := 276 + k) (by omega); have c1 := S2.free (276 + k); have HS2 := Lib.hid S2; clear hw' U3 S2)
    go_roundw
    case rel =>
     refine ⟨k + 1, by omega, by go_num, ?_, HR2.out.other (by simp) _, ?_⟩
     ·rw [show (h || orB (newB n L) (k + 1)) = (h || orB (newB n L) k || varH (L k)) from by simp [orB, newB, hkn, Bool.or_assoc]]
      exact HU2.out.setCell (by simp) _
     ·refine (HS2.out.set _ _).congr fun i hi => ?_
      simp only [Go.Proofs.YtgfklheepkgedaaGreat.upd, newI]
      by_cases h1 : i = 276 + k
      ·subst h1; rw [if_pos rfl, if_neg (by omega), if_pos (by omega), show 276 + k - 276 = k by omega, if_pos hkn]; rfl
      ·rw [if_neg h1, if_neg h1]; split <;> first | rfl | (split <;> split <;> first | rfl | omega)
    case measure => simp [intOf]; omega
   ·have d2 : decide ((k : Int) < (n : Int)) = false := by simp; omega
    go_wp2_with fail
    go_roundw
    case rel =>
     refine ⟨k + 1, by omega, by go_num, ?_, R.out.2.1.other (by simp) _, ?_⟩
     ·rw [show (h || orB (newB n L) (k + 1)) = (h || orB (newB n L) k) from by simp [orB, newB, hkn]]
      exact R.out.1.setCell (by simp) _
     ·refine (R.out.2.2.set _ _).congr fun i hi => ?_
      simp only [Go.Proofs.YtgfklheepkgedaaGreat.upd, newI]
      by_cases h1 : i = 276 + k
      ·subst h1; rw [if_pos rfl, if_neg (by omega), if_pos (by omega), show 276 + k - 276 = k by omega, if_neg hkn]
      ·rw [if_neg h1]; split; rfl; split <;> split <;> first | rfl | omega
    case measure => simp [intOf]; omega
  ·have hk24 : k = 24 := by omega
   subst hk24
   have B0 := R.out.2.1
   have B1 := R.out.2.2
   have HB := Lib.hid R.out.1
   clear R hlt hk
   rw [show ((24 : Nat) : Int) = 24 from rfl]
   go_wp2_with (first | (refine wpList_load_row rfl 26 _ rfl (w.heap.size + 1) rfl 26 _ (0, 0) _ B1 Tryz.underlying26 rfl (icov.trans (by rw [arrv_size])) ?_) | (refine wpList_store_row rfl 26 _ _ rfl w.heap.size _ rfl rfl 26 _ B0 (icov.trans (by rw [arrv_size])) (by rw [arrv_size, arrv_size]) (oneCell_arrv _ _) ?_))
   refine bodyPost_ret (results_cell_row Tryz.results17 _ _ w.heap.size 26 (arrv 300 (newI n L 24)) (0, 0) _ rfl (setRow_heap _ _ _ _ _ _ B0) Tryz.underlying26 rfl (icov.trans (by rw [arrv_size]))) rfl ⟨?_, ?_⟩
   ·rw [arrv_congr (g := newF n L) fun i hi => by simp only [newI, newF]; split <;> first | rfl | (rw [if_pos (by omega)])]
   ·exact HB.out.then' (below_row (Below.refl _ _) (Nat.le_refl _) _)
end Go.Proofs.YtgfklheepkgedaaGreat
/- Contract of thornton.With: Step with One and the noises given. -/
namespace Go.Proofs.YtgfklheepkgedaaGreat
open Go.RowKit
set_option maxRecDepth 100000
end Go.Proofs.YtgfklheepkgedaaGreat
/- thornton.Step with One, of variances alone: the noises are added, and nothing else. No program. -/
namespace Go.Proofs.YtgfklheepkgedaaGreat
theorem orB_no {p : Nat → Bool} : ∀ {n : Nat}, (∀ i, i < n → p i = false) → orB p n = false
 | 0, _ => rfl
 | n + 1, h => by simp only [orB]; rw [orB_no fun i hi => h i (by omega), h n (by omega)]; rfl
theorem satV_0 : satV 0 = 0 := by decide
theorem satH_0 : satH 0 = false := by decide
theorem satV_one : satV 1073741824 = 1073741824 := by decide
theorem satH_one : satH 1073741824 = false := by decide
theorem rsh_mul (e : Int) : rsh (1073741824 * e) 30 = e := by
 have h2 : ((2 : Int) ^ 30) = 1073741824 := by decide
 unfold rsh rdiv
 rw [h2]
 have : (1073741824 * e).natAbs = 1073741824 * e.natAbs := by rw [Int.natAbs_mul]; rfl
 rw [this, show (1073741824 : Int).natAbs = 1073741824 from rfl]
 have e1 : (2 * (1073741824 * e.natAbs) + 1073741824) / (2 * 1073741824) = e.natAbs := by omega
 rw [e1]
 by_cases he : 0 ≤ e
 ·rw [if_pos (by simp; omega)]; omega
 ·rw [if_neg (by simp; omega)]; omega
theorem rsh_0 : rsh 0 30 = 0 := by decide
theorem mulV_one {e : Int} (h1 : -1152921504606846976 ≤ e) (h2 : e ≤ 1152921504606846976) : mulV 1073741824 e 30 = e := by
 unfold mulV
 rw [if_neg (by decide), satV_one, satV_id h1 h2, show (30 : Int).toNat = 30 from rfl, rsh_mul, satV_id h1 h2]
theorem mulH_one {e : Int} (h1 : -1152921504606846976 ≤ e) (h2 : e ≤ 1152921504606846976) : mulH 1073741824 e 30 = false := by
 unfold mulH
 rw [satV_one, satV_id h1 h2, show (30 : Int).toNat = 30 from rfl, rsh_mul, satH_one, satH_no h1 h2]; rfl
theorem mulV_0 (e : Int) : mulV 0 e 30 = 0 := by
 unfold mulV
 rw [if_neg (by decide), satV_0, Int.zero_mul, show (30 : Int).toNat = 30 from rfl, rsh_0, satV_0]
theorem mulH_0 {e : Int} (h1 : -1152921504606846976 ≤ e) (h2 : e ≤ 1152921504606846976) : mulH 0 e 30 = false := by
 unfold mulH
 rw [satV_0, Int.zero_mul, show (30 : Int).toNat = 30 from rfl, rsh_0, satH_no h1 h2]; decide
theorem subV_0 {a : Int} (h1 : -1152921504606846976 ≤ a) (h2 : a ≤ 1152921504606846976) : subV a 0 = a := by
 unfold subV; rw [satV_0, Int.sub_zero, satV_id h1 h2, satV_id h1 h2]
theorem subH_0 {a : Int} (h1 : -1152921504606846976 ≤ a) (h2 : a ≤ 1152921504606846976) : subH a 0 = false := by
 unfold subH; rw [satV_0, Int.sub_zero, satV_id h1 h2, satH_no h1 h2, satH_0]; rfl
theorem rdiv_0 {d : Int} (h : d ≠ 0) : rdiv 0 d = 0 := by
 unfold rdiv
 have : (2 * (0 : Int).natAbs + d.natAbs) / (2 * d.natAbs) = 0 := Nat.div_eq_of_lt (by have := Int.natAbs_pos.2 h; simp; omega)
 rw [this]
 split <;> rfl
/-- A product taken out of a sum of products. -/
theorem dotS_out (A B : Nat → Int) (a : Nat) : ∀ n, a < n → dotS A B n = dotS (upd A a 0) B n + satV (A a) * satV (B a)
 | 0, h => by omega
 | n + 1, h => by
  simp only [dotS]
  by_cases ha : a = n
  ·subst ha
   have e : ∀ m, m ≤ a → dotS (upd A a 0) B m = dotS A B m := by
    intro m
    induction m with
    | zero => intro _; rfl
    | succ m ih => intro hm; simp only [dotS]; rw [ih (by omega)]; simp only [upd]; rw [if_neg (by omega)]
   rw [e a (Nat.le_refl _)]
   simp only [upd, if_pos, satV_0, Int.zero_mul]
   omega
  ·rw [dotS_out A B a n (by omega)]
   simp only [upd]
   rw [if_neg (by omega : ¬ n = a)]
   omega
theorem dotS_no {A B : Nat → Int} : ∀ {n : Nat}, (∀ i, i < n → A i = 0 ∨ B i = 0) → dotS A B n = 0
 | 0, _ => rfl
 | n + 1, h => by
  simp only [dotS]
  rw [dotS_no fun i hi => h i (by omega)]
  rcases h n (by omega) with e | e <;> rw [e, satV_0] <;> simp
theorem dotB_no {A B : Nat → Int} : ∀ {n : Nat}, (∀ i, i < n → satH (A i) = false ∧ satH (B i) = false) → dotB A B n = false
 | 0, _ => rfl
 | n + 1, h => by
  simp only [dotB]
  rw [dotB_no fun i hi => h i (by omega), (h n (by omega)).1, (h n (by omega)).2]; rfl
/-- Of the products but one at a. -/
theorem dotS_1 {A B : Nat → Int} {n a : Nat} (ha : a < n) (h : ∀ i, i < n → i ≠ a → A i = 0 ∨ B i = 0) : dotS A B n = satV (A a) * satV (B a) := by
 rw [dotS_out A B a n ha, dotS_no, Int.zero_add]
 intro i hi
 by_cases e : i = a
 ·left; simp [upd, e]
 ·rcases h i hi e with h | h
  ·left; simp [upd, e, h]
  ·right; exact h
theorem dotS_2 {A B : Nat → Int} {n a b : Nat} (ha : a < n) (hb : b < n) (hab : a ≠ b) (h : ∀ i, i < n → i ≠ a → i ≠ b → A i = 0 ∨ B i = 0) : dotS A B n = satV (A a) * satV (B a) + satV (A b) * satV (B b) := by
 rw [dotS_out A B a n ha, dotS_1 hb, Int.add_comm]
 ·congr 2; simp [upd, Ne.symm hab]
 ·intro i hi hib
  by_cases e : i = a
  ·left; simp [upd, e]
  ·rcases h i hi e hib with h | h
   ·left; simp [upd, e, h]
   ·right; exact h
/-- The rows that are orthogonal from the start. -/
def idW (x : Nat) : Int := if x % 48 = x / 48 ∨ x % 48 = 24 + x / 48 then 1073741824 else 0
theorem tri_le {j : Nat} (hj : j < 24) : j * (j - 1) / 2 + j ≤ 276 := by
 have : ∀ j : Fin 24, j.val * (j.val - 1) / 2 + j.val ≤ 276 := by decide
 exact this ⟨j, hj⟩
section
variable {W e : Nat → Int} (hW : ∀ x, x < 1152 → W x = idW x) (he : ∀ k, k < 48 → 0 ≤ e k ∧ e k ≤ 72057594037927936)
include hW he
variable (hs : ∀ j, j < 24 → 1 ≤ e j + e (24 + j) ∧ e j + e (24 + j) ≤ 72057594037927936)
include hs
end
/-- A covariance of variances alone. -/
def DiagF (f : Nat → Int) : Prop := (∀ x, x < 276 → f x = 0) ∧ ∀ i, i < 24 → 1 ≤ f (276 + i) ∧ f (276 + i) ≤ 72057594037927936
theorem varV_id {a : Int} (h : 1 ≤ a) (h' : a ≤ 72057594037927936) : varV a = a ∧ varH a = false := by
 constructor
 ·unfold varV clampV; rw [if_neg (by omega), if_neg (by omega), if_neg (by omega)]
 ·unfold varH clampH; simp; omega
theorem qV_id {a : Int} (h : 0 ≤ a) (h' : a ≤ 72057594037927936) : qV a = a ∧ qH a = false := by
 constructor
 ·unfold qV clampV; rw [if_neg (by omega), if_neg (by omega), if_neg (by omega)]
 ·unfold qH clampH; simp; omega
end Go.Proofs.YtgfklheepkgedaaGreat
/- bierman's plain laws: a row of noughts, turned signs, what is learnt is good. No program. -/
namespace Go.Proofs.YtgfklheepkgedaaGreat
theorem orB_false {p : Nat → Bool} : ∀ {n : Nat}, orB p n = false → ∀ i, i < n → p i = false
 | n + 1, h, i, hi => by
  simp only [orB, Bool.or_eq_false_iff] at h
  by_cases e : i = n
  ·subst e; exact h.2
  ·exact orB_false h.1 i (by omega)
theorem varV_bd (a : Int) : 1 ≤ varV a ∧ varV a ≤ 72057594037927936 := by
 unfold varV clampV; repeat' split
 all_goals omega
theorem divV_z {b : Int} (hb : satV b ≠ 0) (s : Int) : divV 0 b s = 0 := by
 unfold divV byV
 rw [if_neg hb]
 split
 ·rfl
 ·rw [satV_0, Int.zero_mul, rdiv_0 hb, satV_0]
section
variable {p : Nat → Int} (hU : ∀ x, x < 276 → -1152921504606846976 ≤ p x ∧ p x ≤ 1152921504606846976) (hD : ∀ i, i < 24 → 1 ≤ p (276 + i) ∧ p (276 + i) ≤ 72057594037927936) {r : Int} (hr : 1 ≤ r ∧ r ≤ 72057594037927936)
end
section
variable (p h : Nat → Int) (r : Int)
end
section
variable {p h : Nat → Int} {r : Int} (hD : ∀ i, i < 24 → 1 ≤ p (276 + i) ∧ p (276 + i) ≤ 72057594037927936) (hr : 1 ≤ r ∧ r ≤ 72057594037927936)
include hD
include hr
end
/-- What is good stays as it is. -/
theorem cond_good {f : Nat → Int} (h : condH f = false) : ∀ x, x < 300 → condF f x = f x := by
 intro x hx
 unfold condH at h
 rw [Bool.or_eq_false_iff] at h
 unfold condF
 split
 ·rename_i h1
  have := orB_false h.2 x h1
  simp only [satH, clampH] at this
  simp at this
  exact satV_id (by omega) (by omega)
 ·rename_i h1
  have := orB_false h.1 (x - 276) (by omega)
  simp only [varH, clampH, show 276 + (x - 276) = x by omega] at this
  simp at this
  exact (varV_id (by omega) (by omega)).1
end Go.Proofs.YtgfklheepkgedaaGreat
/- bierman's plain laws (2): one state by itself, and the flags of a row of noughts. No program. -/
namespace Go.Proofs.YtgfklheepkgedaaGreat
section
variable {p : Nat → Int} (hp : DiagF p) {k : Nat} (hk : k < 24) {r : Int} (hr : 1 ≤ r ∧ r ≤ 72057594037927936) (hd : p (276 + k) ≤ 72057594037927936)
end
end Go.Proofs.YtgfklheepkgedaaGreat
/- thornton.Step's answer is good. No program. -/
namespace Go.Proofs.YtgfklheepkgedaaGreat
theorem good_of {f : Nat → Int} (h1 : ∀ x, x < 276 → -1152921504606846976 ≤ f x ∧ f x ≤ 1152921504606846976) (h2 : ∀ i, i < 24 → 1 ≤ f (276 + i) ∧ f (276 + i) ≤ 72057594037927936) : condH f = false := by
 unfold condH
 rw [orB_no, orB_no]; rfl
 ·intro i hi; exact satH_no (h1 i hi).1 (h1 i hi).2
 ·intro i hi; exact (varV_id (h2 i hi).1 (h2 i hi).2).2
end Go.Proofs.YtgfklheepkgedaaGreat
/- block's numbers: states begun anew are apart from all others, whatever the factors are. No program. -/
namespace Go.Proofs.YtgfklheepkgedaaGreat
/-- The matrix that forgets the states R. -/
def rsF (R : Nat → Bool) : Nat → Int := fun x => if x / 24 = x % 24 ∧ R (x / 24) = false then 1073741824 else 0
theorem rsF_bd (R : Nat → Bool) (x : Nat) : satV (rsF R x) = rsF R x ∧ satH (rsF R x) = false := by
 unfold rsF; split
 ·exact ⟨satV_one, satH_one⟩
 ·exact ⟨satV_0, satH_0⟩
theorem fS_rs (R : Nat → Bool) (x : Nat) : fS (rsF R) 24 0 x = rsF R x := by
 unfold fS; split
 ·exact (rsF_bd R x).1
 ·rfl
theorem rsF_at {R : Nat → Bool} {i m : Nat} (hm : m < 24) : rsF R (i * 24 + m) = if i = m ∧ R i = false then 1073741824 else 0 := by
 unfold rsF
 rw [show (i * 24 + m) / 24 = i by omega, show (i * 24 + m) % 24 = m by omega]
theorem stD_pos (W e : Nat → Int) (j : Nat) : satV (stD W e j) ≠ 0 := by
 have h : 1 ≤ stD W e j ∧ stD W e j ≤ 72057594037927936 := by unfold stD; exact varV_bd _
 rw [satV_id (by omega) (by omega)]; omega
end Go.Proofs.YtgfklheepkgedaaGreat
/- block's numbers (2): of factors whose rows hold nothing but in the states that are forgotten, the answer exactly, and no flag. No program. -/
namespace Go.Proofs.YtgfklheepkgedaaGreat
/-- The rows that are orthogonal from the start. -/
def dgW (R : Nat → Bool) (x : Nat) : Int := if (x % 48 = x / 48 ∧ R (x / 48) = false) ∨ x % 48 = 24 + x / 48 then 1073741824 else 0
theorem dgW_bd (R : Nat → Bool) (x : Nat) : -1152921504606846976 ≤ dgW R x ∧ dgW R x ≤ 1152921504606846976 := by unfold dgW; split <;> omega
theorem dgW_at {R : Nat → Bool} {i k : Nat} (hk : k < 48) : dgW R (i * 48 + k) = if (k = i ∧ R i = false) ∨ k = 24 + i then 1073741824 else 0 := by
 unfold dgW
 rw [show (i * 48 + k) % 48 = k by omega, show (i * 48 + k) / 48 = i by omega]
/-- A state's own variance, or none if it is forgotten. -/
def dgE (R : Nat → Bool) (e : Nat → Int) (j : Nat) : Int := if R j = true then 0 else e j
section
variable {R : Nat → Bool} {W e : Nat → Int} (hW : ∀ x, x < 1152 → W x = dgW R x) (he : ∀ k, k < 48 → 0 ≤ e k ∧ e k ≤ 72057594037927936)
include hW he
theorem stY_dg {j k : Nat} (hj : j < 24) (hk : k < 48) : stY W e j k = if (k = j ∧ R j = false) ∨ k = 24 + j then e k else 0 := by
 unfold stY
 rw [hW _ (by omega), dgW_at hk]
 have := he k hk
 split
 ·rw [mulV_one (by omega) (by omega)]
 ·rw [mulV_0]
theorem dot_dg {i j : Nat} (hi : i < 24) (hj : j < 24) : dotS (rowF 48 W i) (stY W e j) 48 = if i = j then 1073741824 * (dgE R e j + e (24 + j)) else 0 := by
 by_cases hij : i = j
 ·subst hij
  have h1 := he i (by omega)
  have h2 := he (24 + i) (by omega)
  rw [if_pos rfl]
  cases hR : R i with
  | false =>
   rw [dotS_2 (a := i) (b := 24 + i) (by omega) (by omega) (by omega)]
   ·rw [stY_dg hW he hj (by omega), stY_dg hW he hj (by omega), if_pos (.inl ⟨rfl, hR⟩), if_pos (.inr rfl)]
    simp only [rowF, dgE]
    rw [hW _ (by omega), hW _ (by omega), dgW_at (by omega), dgW_at (by omega), if_pos (.inl ⟨rfl, hR⟩), if_pos (.inr rfl), satV_one, satV_id (by omega) (by omega), satV_id (by omega) (by omega), Int.mul_add, hR]
    simp
   ·intro k hk h1 h2
    right
    rw [stY_dg hW he hj hk, if_neg (by omega)]
  | true =>
   rw [dotS_1 (a := 24 + i) (by omega)]
   ·rw [stY_dg hW he hj (by omega), if_pos (.inr rfl)]
    simp only [rowF, dgE]
    rw [hW _ (by omega), dgW_at (by omega), if_pos (.inr rfl), satV_one, satV_id (by omega) (by omega), if_pos hR, Int.zero_add]
   ·intro k hk h1
    right
    rw [stY_dg hW he hj hk, if_neg (by rw [hR]; simp; omega)]
 ·rw [if_neg hij, dotS_no]
  intro k hk
  by_cases h : (k = j ∧ R j = false) ∨ k = 24 + j
  ·left
   simp only [rowF]
   rw [hW _ (by omega), dgW_at hk, if_neg (by omega)]
  ·right
   rw [stY_dg hW he hj hk, if_neg h]
theorem dotB_dg {i j : Nat} (hi : i < 24) (hj : j < 24) : dotB (rowF 48 W i) (stY W e j) 48 = false := by
 refine dotB_no fun k hk => ⟨?_, ?_⟩
 ·simp only [rowF]
  rw [hW _ (by omega)]
  exact satH_no (dgW_bd R _).1 (dgW_bd R _).2
 ·rw [stY_dg hW he hj hk]
  have := he k hk
  split
  ·exact satH_no (by omega) (by omega)
  ·exact satH_0
variable (hs : ∀ j, j < 24 → 1 ≤ dgE R e j + e (24 + j) ∧ dgE R e j + e (24 + j) ≤ 72057594037927936)
include hs
theorem stD_dg {j : Nat} (hj : j < 24) : stD W e j = dgE R e j + e (24 + j) ∧ dB W e j = false := by
 have := hs j hj
 have hd : dotV 30 (rowF 48 W j) (stY W e j) 48 = dgE R e j + e (24 + j) := by
  unfold dotV
  rw [if_neg (by decide), dot_dg hW he hj hj, if_pos rfl, show (30 : Int).toNat = 30 from rfl, rsh_mul, satV_id (by omega) (by omega)]
 constructor
 ·unfold stD
  rw [hd]
  exact (varV_id this.1 this.2).1
 ·unfold dB
  rw [hd]
  unfold dotH
  rw [if_neg (by decide), dotB_dg hW he hj hj, dot_dg hW he hj hj, if_pos rfl, show (30 : Int).toNat = 30 from rfl, rsh_mul, satH_no (by omega) (by omega), (varV_id this.1 this.2).2]
  rfl
theorem stU_dg {i j : Nat} (hi : i < j) (hj : j < 24) : stU W e j i = 0 ∧ uB W e j i = false := by
 have hd : dotV 30 (rowF 48 W i) (stY W e j) 48 = 0 := by
  unfold dotV
  rw [if_neg (by decide), dot_dg hW he (by omega) hj, if_neg (by omega), show (30 : Int).toNat = 30 from rfl, rsh_0, satV_0]
 have hD := (stD_dg hW he hs hj).1
 have := hs j hj
 constructor
 ·unfold stU
  rw [hd, divV_z (stD_pos W e j)]
 ·unfold uB
  rw [hd, hD]
  unfold dotH divH byH
  rw [if_neg (by decide), dotB_dg hW he (by omega) hj, dot_dg hW he (by omega) hj, if_neg (by omega), show (30 : Int).toNat = 30 from rfl, rsh_0, satV_0, satH_0, Int.zero_mul, satV_id (by omega) (by omega), satH_no (by omega) (by omega)]
  rw [rdiv_0 (by omega), satH_0]
  simp; omega
theorem stage_dg {j : Nat} (hj : j < 24) : (∀ x, x < 1152 → elW W e j j 0 x = dgW R x) ∧ stageH W e j = false := by
 constructor
 ·intro x hx
  unfold elW
  split
  ·unfold elV
   rw [(stU_dg hW he hs (by omega) hj).1, mulV_0, show x / 48 * 48 + x % 48 = x by omega, hW x hx, subV_0 (dgW_bd R x).1 (dgW_bd R x).2]
  ·exact hW x hx
 ·unfold stageH
  rw [(stD_dg hW he hs hj).2, orB_no, orB_no]; rfl
  ·intro i hi
   unfold rowB
   rw [(stU_dg hW he hs hi hj).2, orB_no]; rfl
   intro k hk
   unfold elB
   rw [(stU_dg hW he hs hi hj).1, mulV_0, hW _ (by omega), hW _ (by omega), mulH_0 (dgW_bd R _).1 (dgW_bd R _).2, subH_0 (dgW_bd R _).1 (dgW_bd R _).2]; rfl
  ·intro k hk
   unfold yB
   have := he k hk
   rw [hW _ (by omega), dgW_at hk]
   split
   ·exact mulH_one (by omega) (by omega)
   ·exact mulH_0 (by omega) (by omega)
theorem outI_dg (O : Nat → Int) {j : Nat} (hj : j < 24) : ∀ m, m ≤ j → ∀ x, x < 300 → outI O W e j m x = if x = 276 + j then dgE R e j + e (24 + j) else if j * (j - 1) / 2 ≤ x ∧ x < j * (j - 1) / 2 + m then 0 else O x
 | 0, _, x, hx => by
  simp only [outI, upd]
  rw [(stD_dg hW he hs hj).1]
  split
  ·rfl
  ·rw [if_neg (by omega)]
 | m + 1, hm, x, hx => by
  have ht := tri_le hj
  have hp : pl m j = j * (j - 1) / 2 + m := rfl
  simp only [outI, upd]
  rw [outI_dg O hj m (by omega) x hx, (stU_dg hW he hs (by omega) hj).1]
  by_cases h1 : x = pl m j
  ·rw [if_pos h1, if_neg (by omega), if_pos (by omega)]
  ·rw [if_neg h1]
   split
   ·rfl
   ·split <;> split <;> first | rfl | omega
end
theorem all_dg {R : Nat → Bool} {W e : Nat → Int} (hW : ∀ x, x < 1152 → W x = dgW R x) (he : ∀ k, k < 48 → 0 ≤ e k ∧ e k ≤ 72057594037927936)
  (hs : ∀ j, j < 24 → 1 ≤ dgE R e j + e (24 + j) ∧ dgE R e j + e (24 + j) ≤ 72057594037927936) : ∀ n, n ≤ 24 →
  (∀ x, x < 1152 → WN W e n x = dgW R x) ∧ HN W e n = false ∧ ∀ x, x < 300 → ON W e n x = if 300 - n ≤ x then dgE R e (x - 276) + e (24 + (x - 276)) else 0
 | 0, _ => ⟨hW, rfl, fun x hx => by rw [if_neg (by omega)]; rfl⟩
 | n + 1, hn => by
  obtain ⟨h1, h2, h3⟩ := all_dg hW he hs n (by omega)
  have ht := tri_le (j := 23 - n) (by omega)
  have hst := stage_dg h1 he hs (j := 23 - n) (by omega)
  refine ⟨hst.1, ?_, fun x hx => ?_⟩
  ·simp only [HN]; rw [h2, hst.2]; rfl
  ·simp only [ON]
   rw [outI_dg h1 he hs _ (by omega) _ (Nat.le_refl _) x hx, h3 x hx]
   by_cases hx1 : x = 276 + (23 - n)
   ·rw [if_pos hx1, if_pos (by omega), hx1, show 276 + (23 - n) - 276 = 23 - n by omega]
   ·rw [if_neg hx1]
    by_cases hx2 : 300 - n ≤ x
    ·rw [if_pos hx2, if_neg (by omega), if_pos (by omega)]
    ·have hx3 : ¬ 300 - (n + 1) ≤ x := by omega
     rw [if_neg hx2, if_neg hx3]
     split <;> rfl
/-- Factors that are good, with numbers above the diagonal in forgotten rows alone. -/
structure RsP (R : Nat → Bool) (f : Nat → Int) : Prop where
 u : ∀ i j, i < j → j < 24 → -1152921504606846976 ≤ f (pl i j) ∧ f (pl i j) ≤ 1152921504606846976
 z : ∀ i j, i < j → j < 24 → R i = false → f (pl i j) = 0
 d : ∀ i, i < 24 → 1 ≤ f (276 + i) ∧ f (276 + i) ≤ 72057594037927936
theorem rw_rs {R : Nat → Bool} {f : Nat → Int} (hu : ∀ i j, i < j → j < 24 → -1152921504606846976 ≤ f (pl i j) ∧ f (pl i j) ≤ 1152921504606846976) (hz : ∀ i j, i < j → j < 24 → R i = false → f (pl i j) = 0) {i k : Nat} (hi : i < 24) (hk : k < 24) :
  rwV f (fS (rsF R) 24 0) i k = (if i = k ∧ R i = false then 1073741824 else 0) ∧ rwB f (fS (rsF R) 24 0) i k = false := by
 have hc : ∀ m, m < 24 → -1152921504606846976 ≤ colF f k m ∧ colF f k m ≤ 1152921504606846976 := by
  intro m hm
  unfold colF uV
  split
  ·split
   ·omega
   ·split
    ·rename_i h; exact hu m k h hk
    ·omega
  ·omega
 have hd : dotS (rowF 24 (fS (rsF R) 24 0) i) (colF f k) 24 = if i = k ∧ R i = false then 1073741824 * 1073741824 else 0 := by
  cases hR : R i with
  | true =>
   rw [if_neg (by simp), dotS_no]
   intro m hm
   left; simp only [rowF]; rw [fS_rs, rsF_at hm, if_neg (by rw [hR]; simp)]
  | false =>
   have e0 : dotS (rowF 24 (fS (rsF R) 24 0) i) (colF f k) 24 = satV (rowF 24 (fS (rsF R) 24 0) i i) * satV (colF f k i) := by
    refine dotS_1 hi fun m hm hmi => ?_
    left; simp only [rowF]; rw [fS_rs, rsF_at hm, if_neg (by omega)]
   rw [e0]
   simp only [rowF]
   rw [fS_rs, rsF_at hi, if_pos ⟨rfl, hR⟩, satV_one]
   by_cases e1 : i = k
   ·subst e1
    rw [if_pos (by simp)]
    unfold colF uV
    rw [if_pos (Nat.le_refl _), if_pos rfl, satV_one]
   ·rw [if_neg (by simp [e1])]
    have : colF f k i = 0 := by
     unfold colF uV
     by_cases h : i < k
     ·rw [if_pos (by omega), if_neg e1, if_pos h]; exact hz i k h hk hR
     ·rw [if_neg (by omega)]
    rw [this, satV_0]; rfl
 have hb : dotB (rowF 24 (fS (rsF R) 24 0) i) (colF f k) 24 = false := by
  refine dotB_no fun m hm => ⟨?_, ?_⟩
  ·simp only [rowF]; rw [fS_rs]; exact (rsF_bd R _).2
  ·exact satH_no (hc m hm).1 (hc m hm).2
 unfold rwV rwB dotV dotH
 rw [if_neg (by decide : ¬ ((30 : Int) < 0 ∨ (120 : Int) < 30)), if_neg (by decide : ¬ ((30 : Int) < 0 ∨ (120 : Int) < 30)), hb, hd, show (30 : Int).toNat = 30 from rfl]
 by_cases e : i = k ∧ R i = false
 ·rw [if_pos e, if_pos e, rsh_mul]; exact ⟨satV_one, by rw [satH_one]; rfl⟩
 ·rw [if_neg e, if_neg e, rsh_0]; exact ⟨satV_0, by rw [satH_0]; rfl⟩
theorem pl_all {x : Nat} (hx : x < 276) : ∃ i j, i < j ∧ j < 24 ∧ x = pl i j := by
 have key : ∀ x : Fin 276, ∃ j : Fin 24, j.val * (j.val - 1) / 2 ≤ x.val ∧ x.val < j.val * (j.val - 1) / 2 + j.val := by decide +kernel
 obtain ⟨j, h1, h2⟩ := key ⟨x, hx⟩
 simp only at h1 h2
 exact ⟨x - j.val * (j.val - 1) / 2, j.val, by omega, j.isLt, by unfold pl; omega⟩
theorem cond_rs {R : Nat → Bool} {f : Nat → Int} (h : RsP R f) : (∀ x, x < 300 → condF f x = f x) ∧ condH f = false := by
 have hg : condH f = false := good_of (fun x hx => by obtain ⟨i, j, h1, h2, rfl⟩ := pl_all hx; exact h.u i j h1 h2) h.d
 exact ⟨cond_good hg, hg⟩
theorem step_reset {R : Nat → Bool} {f q : Nat → Int} (h : RsP R f) (hq : ∀ i, i < 24 → 0 ≤ q i ∧ q i ≤ 72057594037927936) (hr : ∀ i, i < 24 → 1 ≤ dgE R (fun i => f (276 + i)) i + q i ∧ dgE R (fun i => f (276 + i)) i + q i ≤ 72057594037927936) :
  (∀ x, x < 300 → stepF f (rsF R) q x = if x < 276 then 0 else dgE R (fun i => f (276 + i)) (x - 276) + q (x - 276)) ∧ stepH f (rsF R) q = false := by
 have hc := cond_rs h
 have hcu : ∀ i j, i < j → j < 24 → -1152921504606846976 ≤ condF f (pl i j) ∧ condF f (pl i j) ≤ 1152921504606846976 := fun i j h1 h2 => by rw [hc.1 _ (by have := pl_lt h1 h2; omega)]; exact h.u i j h1 h2
 have hcz : ∀ i j, i < j → j < 24 → R i = false → condF f (pl i j) = 0 := fun i j h1 h2 hR => by rw [hc.1 _ (by have := pl_lt h1 h2; omega)]; exact h.z i j h1 h2 hR
 have hW : ∀ x, x < 1152 → stepW f (rsF R) x = dgW R x := by
  intro x hx
  unfold stepW rowsW dgW
  split
  ·rw [(rw_rs hcu hcz (by omega) (by omega)).1]
   by_cases e : x / 48 = x % 48 ∧ R (x / 48) = false
   ·rw [if_pos e, if_pos (.inl ⟨e.1.symm, e.2⟩)]
   ·rw [if_neg e, if_neg]
    intro h'
    rcases h' with h' | h'
    ·exact e ⟨h'.1.symm, h'.2⟩
    ·omega
  ·split
   ·rename_i h1 h2; rw [if_pos (.inr h2)]
   ·rename_i h1 h2; rw [if_neg (by omega)]
 have hE : ∀ k, k < 48 → stepE f q k = if k < 24 then f (276 + k) else q (k - 24) := by
  intro k hk
  unfold stepE eS
  split
  ·rw [hc.1 _ (by omega)]
  ·rw [if_pos (by omega)]
   have h1 := hq (k - 24) (by omega)
   exact (qV_id (by omega) (by omega)).1
 have hG : ∀ j, j < 24 → dgE R (stepE f q) j + stepE f q (24 + j) = dgE R (fun i => f (276 + i)) j + q j := by
  intro j hj
  unfold dgE
  rw [hE j (by omega), hE (24 + j) (by omega)]
  simp only [if_pos hj, if_neg (show ¬ 24 + j < 24 by omega), show 24 + j - 24 = j by omega]
 have hA := all_dg (R := R) (W := stepW f (rsF R)) (e := stepE f q) hW (fun k hk => by
  rw [hE k hk]
  split
  ·have := h.d k (by omega); omega
  ·exact hq (k - 24) (by omega)) (fun j hj => by rw [hG j hj]; exact hr j hj) 24 (Nat.le_refl _)
 constructor
 ·intro x hx
  unfold stepF
  rw [hA.2.2 x hx]
  by_cases e : x < 276
  ·rw [if_neg (by omega), if_pos e]
  ·rw [if_pos (by omega), if_neg e, hG _ (by omega)]
 ·unfold stepH
  rw [hc.2, hA.2.1]
  have h1 : loop1H q (rsF R) 24 = false := by
   unfold loop1H
   refine orB_no fun i hi => ?_
   have h1 := hq i hi
   rw [(qV_id (a := q i) (by omega) (by omega)).2]
   unfold row1H
   rw [orB_no]; rfl
   intro k hk; exact (rsF_bd R _).2
  have h2 : rowsH (condF f) (fS (rsF R) 24 0) = false := by
   unfold rowsH rwH
   refine orB_no fun k hk => orB_no fun i hi => ?_
   exact (rw_rs hcu hcz hi hk).2
  rw [h1, h2]; rfl
end Go.Proofs.YtgfklheepkgedaaGreat
/- Contracts of package block: is, variance, Reset. -/
namespace Go.Proofs.YtgfklheepkgedaaGreat
open Go.RowKit
set_option maxRecDepth 100000
theorem is_any (i : Int) (w : World) : Calls Tryz.prog 53 #[.int .i64 i] w fun e w' => e = .returned (.bool (decide (0 ≤ i ∧ i < 24))) ∧ w = w' := by
 by_cases h1 : 0 ≤ i
 ·by_cases h2 : i < 24
  ·rw [show decide (0 ≤ i ∧ i < 24) = true from by simp; omega]
   go_enter Tryz.func53, Tryz.ntmps53
   go_wp2_with fail
   go_ret
   exact ⟨rfl, rfl⟩
  ·rw [show decide (0 ≤ i ∧ i < 24) = false from by simp; omega]
   go_enter Tryz.func53, Tryz.ntmps53
   go_wp2_with fail
   go_ret
   exact ⟨rfl, rfl⟩
 ·rw [show decide (0 ≤ i ∧ i < 24) = false from by simp; omega]
  go_enter Tryz.func53, Tryz.ntmps53
  go_wp2_with fail
  go_ret
  exact ⟨rfl, rfl⟩
theorem bvar_any (c : Addr) (h : Bool) (a : Int) (w : World) (hc : w.cell? c = some (.bool h)) (hf : w.frozen? c = false) :
  Calls Tryz.prog 54 #[.pointer (some c), .int .i64 a] w fun e w' => e = .returned (.int .i64 (varV a)) ∧ w.setCell c (.bool (h || varH a)) = w' := by
 go_enter Tryz.func54, Tryz.ntmps54
 go_wp2_with (go_at_call 72; refine (clamp_any c h a _ _ _ hc hf).mono ?_; rintro e w' ⟨rfl, rfl⟩)
 go_ret
 exact ⟨rfl, rfl⟩
/-- Is the k-th state of a run that begins at 'from' one? -/
def rtI (fr : Int) (k : Nat) : Bool := decide (0 ≤ fr + k ∧ fr + k < 24)
def rtF (fr : Int) : Nat → Nat → Int | 0 => oneF | k + 1 => if rtI fr k = true then upd (rtF fr k) ((fr + k).toNat * 24 + (fr + k).toNat) 0 else rtF fr k
def rtQ (fr : Int) (L : Nat → Int) : Nat → Nat → Int | 0 => fun _ => 0 | k + 1 => if rtI fr k = true then upd (rtQ fr L k) (fr + k).toNat (varV (L k)) else rtQ fr L k
def rtB (fr : Int) (L : Nat → Int) (k : Nat) : Bool := if rtI fr k = true then varH (L k) else false
structure RtR (c : Addr) (h : Bool) (bf bq : Nat) (f F Q : Nat → Int) (w wr : World) : Prop where
 upd : Upd c h w wr
 pB : Blk wr w.heap.size 26 300 f
 r0 : Blk wr (w.heap.size + 1) 26 300 (fun _ => 0)
 fB : Blk wr bf 96 576 F
 qB : Blk wr bq 22 24 Q
theorem RtR.upd' {c : Addr} {h h' : Bool} {bf bq : Nat} {f F Q : Nat → Int} {w wr w' : World} (s : RtR c h bf bq f F Q w wr) (hc : c.block < w.heap.size) (h1 : w.heap.size + 1 < bf) (h2 : bf < bq) (u : Upd c h' wr w') : RtR c h' bf bq f F Q w w' :=
 ⟨s.upd.trans u, s.pB.upd u (by omega), s.r0.upd u (by omega), s.fB.upd u (by omega), s.qB.upd u (by omega)⟩
theorem RtR.setFQ {c : Addr} {h : Bool} {bf bq : Nat} {f F Q : Nat → Int} {w wr : World} (s : RtR c h bf bq f F Q w wr) (h1 : w.heap.size + 1 < bf) (h2 : bf < bq) (i j : Nat) (x y : Int) :
  RtR c h bf bq f (Go.Proofs.YtgfklheepkgedaaGreat.upd F i x) (Go.Proofs.YtgfklheepkgedaaGreat.upd Q j y) w ((wr.setCell ⟨bf, i, none⟩ (.int .i64 x)).setCell ⟨bq, j, none⟩ (.int .i64 y)) :=
 ⟨(s.upd.setCell (by simp; omega) _).setCell (by simp; omega) _, (s.pB.other (by simp; omega) _).other (by simp; omega) _, (s.r0.other (by simp; omega) _).other (by simp; omega) _, (s.fB.set _ _).other (by simp; omega) _, (s.qB.other (by simp; omega) _).set _ _⟩
set_option maxHeartbeats 4000000 in
theorem reset_any (c : Addr) (h : Bool) (f : Nat → Int) (fr : Int) (p : Option Addr) (n cp : Nat) (L : Nat → Int) (w : World) (hc : w.cell? c = some (.bool h)) (hf : w.frozen? c = false) (hL : Slc w p n L) (hfr : -1000000 ≤ fr ∧ fr ≤ 1000000) (hn : n ≤ 1000000) :
  Calls Tryz.prog 26 #[.pointer (some c), .agg (arrv 300 f), .int .i64 fr, .slice p n cp] w fun e w' =>
   e = .returned (.agg (arrv 300 (stepF f (rtF fr n) (rtQ fr L n)))) ∧ Upd c (h || orB (rtB fr L) n || stepH f (rtF fr n) (rtQ fr L n)) w w' := by
 have hcb := World.block_lt_of_cell? w c hc
 have HC := Lib.hid hc
 have HF := Lib.hid hf
 have HL := Lib.hid hL
 clear hc hf hL
 go_enter Tryz.func26, Tryz.ntmps26
 obtain ⟨W0, hW0⟩ : ∃ x, (w.alloc (.cells (arrv 300 f) 26)).alloc (.cells Tryz.zeroCells26 26) = x := ⟨_, rfl⟩
 have P0 : Blk W0 w.heap.size 26 300 f := by rw [← hW0]; exact (Blk.new w _ _ _).alloc _
 have Z0 : Blk W0 (w.heap.size + 1) 26 300 (fun _ => 0) := by rw [← hW0, zcov]; exact Blk.new1 w _ _ _ _
 have U0 : Upd c h w W0 := by rw [← hW0]; exact Upd.then (Upd.refl HC.out) (by (repeat (first | with_reducible exact Below.refl _ _ | with_reducible apply Below.drew | (with_reducible refine below_drewN ?_ _) | (with_reducible refine Below.alloc ?_ (by (try simp) <;> omega) _) | (with_reducible refine Below.setCell ?_ (by (try simp) <;> omega) _))))
 have hz0 := Z0.lt
 go_upto_region 1 with fail
 (try rw [hW0])
 go_upto_region 2 with (first | (go_at_call 52; (refine (one_any _).mono ?_); rintro e w1 ⟨rfl, hb1⟩; have P1 := Lib.hid (P0.below hb1); have Z1 := Lib.hid (Z0.below hb1); have U1 := Lib.hid (U0.then hb1); have R1 : Blk (w1.alloc (.cells Tryz.zeroCells96 96)) w1.heap.size 96 576 (fun _ => 0) := (by rw [zmat]; exact Blk.new _ _ _ _); clear hb1) | (refine wpList_store_row rfl 96 _ _ rfl (w1.heap.size) _ rfl rfl 96 _ (R1) (imat.trans (by rw [arrv_size])) (by rw [arrv_size, arrv_size]) (oneCell_arrv _ _) ?_))
 obtain ⟨w2, hw2⟩ : ∃ x, x = ((w1.alloc (.cells Tryz.zeroCells96 96)).setRow w1.heap.size (arrv 576 oneF)) := ⟨_, rfl⟩
 rw [← hw2]
 obtain ⟨M2, MB⟩ := Blk.made zmat oneF hw2
 obtain ⟨bf, hbf⟩ : ∃ x, w1.heap.size = x := ⟨_, rfl⟩
 obtain ⟨bq, hbq⟩ : ∃ x, w2.heap.size = x := ⟨_, rfl⟩
 have h1 : w.heap.size + 1 < bf := by rw [← hbf]; exact Z1.out.lt
 rw [hbf] at M2 ⊢
 have h2 : bf < bq := by rw [← hbq]; exact M2.lt
 have S2 : RtR c h bf bq f oneF (fun _ => 0) w (w2.alloc (.cells #[.int .i64 0, .int .i64 0, .int .i64 0, .int .i64 0, .int .i64 0, .int .i64 0, .int .i64 0, .int .i64 0, .int .i64 0, .int .i64 0, .int .i64 0, .int .i64 0, .int .i64 0, .int .i64 0, .int .i64 0, .int .i64 0, .int .i64 0, .int .i64 0, .int .i64 0, .int .i64 0, .int .i64 0, .int .i64 0, .int .i64 0, .int .i64 0] 22)) :=
  ⟨(U1.out.then MB).alloc _, (P1.out.below MB).alloc _, (Z1.out.below MB).alloc _, M2.alloc _, by rw [zcol, ← hbq]; exact Blk.new w2 _ _ _⟩
 have S2 := Lib.hid S2
 clear P0 Z0 U0 hz0 R1 hw2 M2 MB P1 Z1 U1 hW0 hbf
 go_upto_region 3 with fail
 (try rw [hbq])
 generalize w2.alloc (.cells #[.int .i64 0, .int .i64 0, .int .i64 0, .int .i64 0, .int .i64 0, .int .i64 0, .int .i64 0, .int .i64 0, .int .i64 0, .int .i64 0, .int .i64 0, .int .i64 0, .int .i64 0, .int .i64 0, .int .i64 0, .int .i64 0, .int .i64 0, .int .i64 0, .int .i64 0, .int .i64 0, .int .i64 0, .int .i64 0, .int .i64 0, .int .i64 0] 22) = W3 at *
 clear hbq
 go_wp2_with fail
 go_loopw [17] (fun i wr => ∃ k : Nat, k ≤ n ∧ i = .int .i64 k ∧ Hid (RtR c (h || orB (rtB fr L) k) bf bq f (rtF fr k) (rtQ fr L k) w wr)) (fun i _ => n - (intOf i).toNat)
 case atStart =>
  refine ⟨0, by omega, rfl, ?_⟩
  rw [show (h || orB (rtB fr L) 0) = h from by simp [orB]]
  exact S2
 case round =>
  obtain ⟨k, hk, rfl, R⟩ := hrel
  by_cases hkn : k < n
  ·have d1 : decide ((k : Int) < (n : Int)) = true := by simp; omega
   obtain ⟨pb, po, rfl, hcell⟩ := HL.out k hkn
   have hne : (⟨pb, po + k, none⟩ : Addr) ≠ c := fun e => by rw [e, HC.out] at hcell; cases hcell
   have hpl := World.block_lt_of_cell? _ _ hcell
   have hcell' : wr.cell? ⟨pb, po + k, none⟩ = some (.int .i64 (L k)) := (R.out.upd.cell hpl (Ne.symm hne)).trans hcell
   have kw : IntKind.i64.wrap (fr + (k : Int)) = fr + (k : Int) := IntWalk.i64_in _ (by omega)
   obtain ⟨x, hx⟩ : ∃ x, fr + (k : Int) = x := ⟨_, rfl⟩
   rw [hx] at kw
   go_upto_region 7 with fail
   (try rw [hx]); (try rw [kw])
   by_cases hin : 0 ≤ x ∧ x < 24
   ·obtain ⟨i, rfl⟩ : ∃ i : Nat, x = (i : Int) := ⟨x.toNat, by omega⟩
    have hi : i < 24 := by omega
    have q1 : decide ((0 : Int) ≤ (i : Int) ∧ (i : Int) < 24) = true := by simp; omega
    have qI : rtI fr k = true := by unfold rtI; rw [hx]; exact q1
    have qn : (fr + (k : Int)).toNat = i := by rw [hx]; simp
    go_upto_region 8 with (go_at_call 53; (refine (is_any (i : Int) _).mono ?_); rintro e w5 ⟨rfl, rfl⟩; (rw [q1]))
    obtain ⟨HK, hHK⟩ : ∃ y, (h || orB (rtB fr L) k) = y := ⟨_, rfl⟩
    rw [hHK] at R
    have HR := Lib.hid R.out
    have EK := Lib.hid (And.intro hHK (And.intro qI qn))
    have VC := Lib.hid (bvar_any c HK (L k) wr.drew (by exact R.out.upd.cellc HC.out) (by exact (R.out.upd.frozen hcb).trans HF.out))
    clear R hHK qI qn hcell hcell' kw hx q1 hpl hne S2
    refine wp_region_M (fun _ => True) 10 (by kernel_rfl) ?_ (fun hHeld => ?_)
    ·trivial
    refine tk 0 ?_
    (try simp only [Act.put, nA, nB, nC])
    refine tk 1 ?_
    (try simp only [Act.put, nA, nB, nC])
    refine tk 2 ?_
    (try simp only [Act.put, nA, nB, nC])
    refine tk 3 ?_
    (try simp only [Act.put, nA, nB, nC])
    refine tk 4 ?_
    (try simp only [Act.put, nA, nB, nC])
    refine tl 6 (v := ?_) ?_ ?_
    rotate_left
    ·(intro wx hSw; (try dsimp only at hSw); go_simp; (first | rw [if_pos (by omega)] | rw [if_pos ⟨by omega, by omega⟩] | skip); (try with_reducible rfl))
    (try simp only [Act.put, nA, nB, nC])
    refine tl 7 (v := ?_) ?_ ?_
    rotate_left
    ·(intro wx hSw; (try dsimp only at hSw); go_simp; (first | rw [if_pos (by omega)] | rw [if_pos ⟨by omega, by omega⟩] | skip); (try with_reducible rfl))
    (try simp only [Act.put, nA, nB, nC])
    refine wpAnyM_oneS 5 rfl (by kernel_rfl) (fun K hK => ?_)
    go_simp
    (refine VC.out.mono ?_); rintro e w6 ⟨rfl, hw6⟩; have R6 := Lib.hid (HR.out.upd' hcb h1 h2 (Upd.after (Below.drew (Below.refl _ _)) ((Upd.set c (HK || varH (L k)) wr.drew).then (by rw [hw6]; exact Below.refl _ _)))); have n0 := R6.out.fB.cell (i := i * 24 + i) (by omega); have n1 := R6.out.fB.free (i * 24 + i); have n2 := (R6.out.qB.other (a := ⟨bf, i * 24 + i, none⟩) (by simp; omega) (.int .i64 0)).cell (i := i) hi; have n3 := (R6.out.qB.other (a := ⟨bf, i * 24 + i, none⟩) (by simp; omega) (.int .i64 0)).free i; clear hw6
    (try dsimp only)
    (try simp only [Act.put, nA, nB, nC])
    clear hHeld
    refine hK.out _ _ ?_ (fun hHeld => ?_)
    ·trivial
    clear hK K
    (try simp only [Act.put, nA, nB, nC])
    refine wpAnyM_oneS 8 rfl (by kernel_rfl) (fun K hK => ?_)
    go_simp
    clear hHeld
    refine hK.out _ _ ?_ (fun hHeld => ?_)
    ·trivial
    clear hK K
    (try simp only [Act.put, nA, nB, nC])
    refine tl 9 (v := ?_) ?_ ?_
    rotate_left
    ·(intro wx hSw; (try dsimp only at hSw); go_simp; (first | rw [if_pos (by omega)] | rw [if_pos ⟨by omega, by omega⟩] | skip); (try with_reducible rfl))
    (try simp only [Act.put, nA, nB, nC])
    refine wpAnyM_one 10 rfl (by kernel_rfl) (fun K hK => ?_)
    go_simp
    refine hK.out _ _ (.inl (by kernel_rfl)) (fun _ => ?_)
    clear hK K
    (try simp only [Act.put, nA, nB, nC])
    refine wpAnyM_done (by kernel_rfl) ?_ _
    have R7 := Lib.hid (R6.out.setFQ h1 h2 (i * 24 + i) i 0 (varV (L k)))
    generalize (w6.setCell ⟨bf, i * 24 + i, none⟩ (.int .i64 0)).setCell ⟨bq, i, none⟩ (.int .i64 (varV (L k))) = W7 at *
    clear n0 n1 n2 n3 R6 HR VC
    (try clear hHeld)
    go_wp2_with fail
    go_roundw
    case rel =>
     obtain ⟨e1, e2, e3⟩ := EK.out
     refine ⟨k + 1, by omega, by go_num, ?_⟩
     rw [show (h || orB (rtB fr L) (k + 1)) = (HK || varH (L k)) from by rw [← e1]; simp [orB, rtB, e2, Bool.or_assoc], show rtF fr (k + 1) = Go.Proofs.YtgfklheepkgedaaGreat.upd (rtF fr k) (i * 24 + i) 0 from by simp only [rtF]; rw [if_pos e2, e3], show rtQ fr L (k + 1) = Go.Proofs.YtgfklheepkgedaaGreat.upd (rtQ fr L k) i (varV (L k)) from by simp only [rtQ]; rw [if_pos e2, e3]]
     exact R7
    case measure => simp [intOf]; omega
   ·have q1 : decide ((0 : Int) ≤ x ∧ x < 24) = false := by simpa using hin
    have qI : rtI fr k = false := by unfold rtI; rw [hx]; exact q1
    have qI' : ¬ rtI fr k = true := by rw [qI]; simp
    have EK := Lib.hid qI'
    go_wp2_with (go_at_call 53; (refine (is_any x _).mono ?_); rintro e w5 ⟨rfl, rfl⟩; (rw [q1]))
    go_roundw
    case rel =>
     refine ⟨k + 1, by omega, by go_num, ?_⟩
     rw [show (h || orB (rtB fr L) (k + 1)) = (h || orB (rtB fr L) k) from by simp only [orB, rtB]; rw [if_neg EK.out, Bool.or_false], show rtF fr (k + 1) = rtF fr k from by simp only [rtF]; rw [if_neg EK.out], show rtQ fr L (k + 1) = rtQ fr L k from by simp only [rtQ]; rw [if_neg EK.out]]
     exact R
    case measure => simp [intOf]; omega
  ·have hkn2 : k = n := by omega
   subst hkn2
   have d1 : decide ((k : Int) < (k : Int)) = false := by simp
   have P1 := R.out.pB
   have P2 := R.out.fB
   have P3 := R.out.qB
   have SC := Lib.hid (step_any c _ f (rtF fr k) (rtQ fr L k) wr (R.out.upd.cellc HC.out) ((R.out.upd.frozen hcb).trans HF.out))
   go_wp2_with (first | (refine wpList_load_row rfl 26 _ rfl (w.heap.size) rfl 26 _ (0, 0) _ (P1) Tryz.underlying26 rfl (icov.trans (by rw [arrv_size])) ?_) | (refine wpList_load_row rfl 96 _ rfl (bf) rfl 96 _ (0, 0) _ (P2) Tryz.underlying96 rfl (imat.trans (by rw [arrv_size])) ?_) | (refine wpList_load_row rfl 22 _ rfl (bq) rfl 22 _ (0, 0) _ (P3) Tryz.underlying22 rfl (icol.trans (by rw [arrv_size])) ?_) | (go_at_call 55; (refine SC.out.mono ?_); rintro e w8 ⟨rfl, hu8⟩; have Z8 := R.out.r0.upd hu8 (by omega); have U8 := Lib.hid (R.out.upd.trans hu8); clear hu8) | (refine wpList_store_row rfl 26 _ _ rfl (w.heap.size + 1) _ rfl rfl 26 _ (Z8) (icov.trans (by rw [arrv_size])) (by rw [arrv_size, arrv_size]) (oneCell_arrv _ _) ?_))
   refine bodyPost_ret (results_cell_row Tryz.results26 _ _ (w.heap.size + 1) 26 (arrv 300 (stepF f (rtF fr k) (rtQ fr L k))) (0, 0) _ rfl (setRow_heap _ _ _ _ _ _ Z8) Tryz.underlying26 rfl (icov.trans (by rw [arrv_size]))) rfl ⟨rfl, ?_⟩
   exact U8.out.then' (below_row (Below.refl _ _) (by omega) _)
end Go.Proofs.YtgfklheepkgedaaGreat
/- Stores in a region that draws its order, by their runs: the walk's goal is never looked into. -/
namespace Go.Proofs.YtgfklheepkgedaaGreat
open Go.RowKit
open Go in
/-- The last operation that changes the world (a store), by its run: the walk's goal is never looked into. -/
theorem wpAnyM_doneL {P : Program} {ops : Array Oper} {Q : Exit → Act → World → Prop} {md : Region.Mode} {L : Nat} {S : World → Prop} (i : Nat) {o : Oper} {fuel : Nat} {listed : Array Bool} {a : Act} {w w' : World} (ho : ops.toList[i]? = some o) (hr : Region.ready md ops listed = [i])
  (hw : Region.wanted o (yielded ops a.tmps) = true) (hl : (listed.setIfInBounds i true).getD L false = true) (hy : (execOp a.eval o).run P w = .ok .skip w') (h : wpAnyM P md ops Q S L fuel (listed.setIfInBounds i true) (a.put o.dst undef) w') :
  wpAnyM P md ops Q S L (fuel + 1) listed a w :=
 wpAnyM_one i ho hr fun K hK => by
  rw [if_pos hw]
  exact wp_of_run hy (hK.out _ _ (.inl hl) fun _ => h)
open Go in
/-- An operation ahead of the last that changes the world (a store), by its run. -/
theorem wpAnyM_doneN {P : Program} {ops : Array Oper} {Q : Exit → Act → World → Prop} {md : Region.Mode} {L : Nat} {S : World → Prop} (i : Nat) {o : Oper} {fuel : Nat} {listed : Array Bool} {a : Act} {w w' : World} (ho : ops.toList[i]? = some o) (hr : Region.ready md ops listed = [i])
  (hw : Region.wanted o (yielded ops a.tmps) = true) (hy : (execOp a.eval o).run P w = .ok .skip w') (hS : S w') (h : S w' → wpAnyM P md ops Q S L fuel (listed.setIfInBounds i true) (a.put o.dst undef) w') :
  wpAnyM P md ops Q S L (fuel + 1) listed a w :=
 wpAnyM_oneS i ho hr fun K hK => by
  rw [if_pos hw]
  exact wp_of_run hy (hK.out _ _ hS h)
end Go.Proofs.YtgfklheepkgedaaGreat
/- What package reset's jumps need: a whole vector as a slice, copy into the middle of a row, three rows as results, what is told; contract of reset.Nothing. -/
namespace Go.Proofs.YtgfklheepkgedaaGreat
open Go.RowKit
set_option maxRecDepth 100000
theorem vlen : Tryz.prog.arrayLen 28 = 3 := by kernel_rfl
theorem vund : Tryz.prog.underlying 28 = some (.array (Tryz.prog.arrayLen 28) (Tryz.prog.elem 28)) := by kernel_rfl
open Go in
/-- v[:] of a vector, wherever it lies. -/
theorem run_slice_v {o : Oper} {ev : Operand → Value} {w : World} (x : Operand) (ho : o.op = .slice 28 x none none none) (g off : Nat) (hx : ev x = .pointer (some ⟨g, off, none⟩)) :
  (execOp ev o).run Tryz.prog w = .ok (.value (.slice (some ⟨g, off, none⟩) 3 3)) w := by
 have h := run_sliceAt_array_all (P := Tryz.prog) w 28 ⟨g, off, none⟩ vund
 unfold execOp
 simp only [ho, hx, Option.map_none]
 rw [Sem.run_bind, h]
 have hs : (sizeOf (Tryz.prog.elem 28)).run Tryz.prog w = .ok 1 w := by rw [show Tryz.prog.elem 28 = 2 from by kernel_rfl]; simp [go_sem]
 rw [hs, vlen]
 simp [slicedAt, go_sem]
open Go in
/-- v[2:] of a vector. -/
theorem run_slice_v2 {o : Oper} {ev : Operand → Value} {w : World} (x : Operand) (ho : o.op = .slice 28 x (some (.const (.int .i64 2))) none none) (hc : ev (.const (.int .i64 2)) = .int .i64 2) (g off : Nat) (hx : ev x = .pointer (some ⟨g, off, none⟩)) :
  (execOp ev o).run Tryz.prog w = .ok (.value (.slice (some ⟨g, off + 2, none⟩) 1 1)) w := by
 have h := run_sliceAt_array_l (P := Tryz.prog) w 28 ⟨g, off, none⟩ vund .i64 2 (by omega) (by rw [vlen]; omega)
 unfold execOp
 simp only [ho, hx, hc, Option.map_none, Option.map_some]
 rw [Sem.run_bind, h]
 have hs : (sizeOf (Tryz.prog.elem 28)).run Tryz.prog w = .ok 1 w := by rw [show Tryz.prog.elem 28 = 2 from by kernel_rfl]; simp [go_sem]
 rw [hs, vlen]
 simp [slicedAt, go_sem, Addr.add]
/-- A row with numbers put into its middle. -/
def midF (T : Nat → Int) (off m : Nat) (D : Nat → Int) : Nat → Int := fun i => if off ≤ i ∧ i < off + m then D (i - off) else T i
theorem splice_mid (T D : Nat → Int) (n off m : Nat) (h : off + m ≤ n) : (splice (arrv n T).toList off (ints m D)).toArray = arrv n (midF T off m D) := by
 apply Array.ext_getElem?
 intro i
 simp only [splice, List.getElem?_toArray, List.getElem?_append, List.getElem?_drop, List.getElem?_take, Array.getElem?_toList, List.length_take, Array.length_toList, arrv_size, ints_length, List.length_append]
 by_cases hi : i < n
 ·have e : (arrv n (midF T off m D))[i]? = some (.int .i64 (midF T off m D i)) := arrv_get hi
  rw [e]
  unfold midF
  by_cases h1 : i < off
  ·rw [if_pos (by omega), if_pos h1, arrv_get hi, if_neg (by omega)]
  ·rw [if_neg (by omega)]
   by_cases h2 : i < off + m
   ·rw [if_pos (by omega), show i - min off n = i - off by omega, ints_get (by omega), if_pos (by omega)]
   ·rw [if_neg (by omega), if_neg (by omega), show off + m + (i - min off n - m) = i by omega, arrv_get hi]
 ·rw [if_neg (by omega), if_neg (by omega), Array.getElem?_eq_none (by rw [arrv_size]; omega), Array.getElem?_eq_none (by rw [arrv_size]; omega)]
open Go in
/-- copy of a call's own slice into the middle of a row. -/
theorem wpList_copy_mid {w : World} {ops : Array Oper} {rest : List Oper} {o : Oper} {a : Act} {Q : Exit → Act → World → Prop} (hgd : o.guard = none) (d s : Operand)
  (ho : o.op = .call { callee := .builtin .copy, args := #[d, s], argTypes := #[71, 71] })
  (g off dl dc : Nat) (hd : a.eval d = .slice (some ⟨g, off, none⟩) dl dc) {B : Nat} {v : Value} (m : Nat) (D : Nat → Int) (hs : a.eval s = v) (hown : Own w B 2 v m D) (hm : 0 < m) (hml : m ≤ dl) (hml2 : dl ≤ 1000)
  (t n : Nat) (T : Nat → Int) (hg : Blk w g t n T) (hfit : off + m ≤ n)
  (h : wpList Tryz.prog ops Q rest (a.put o.dst (.int .i64 (m : Int))) (w.setRow g (arrv n (midF T off m D)))) : wpList Tryz.prog ops Q (o :: rest) a w := by
 obtain ⟨sg, cp, rfl, _, _, hc⟩ := hown.slc hm
 have hlen : (ints m D).length = m := ints_length m D
 have hrun := run_copy_row (P := Tryz.prog) w 71 71 o.type 2 g off dl dc ⟨sg, 0, none⟩ m cp (arrv n T) t (ints m D) Tryz.underlying71 (by kernel_rfl) hg (by rw [hlen]; exact (Nat.min_eq_left hml).symm)
  (fun j u hu => by
   have hj : j < m := by
    have := (List.getElem?_eq_some_iff.1 hu).1
    simpa [ints_length] using this
   rw [ints_get hj] at hu
   injection hu with hu
   subst hu
   have hcj := hc j hj
   rw [Nat.zero_add] at hcj
   by_cases h0 : j = 0
   ·subst h0; simpa [Addr.add] using hcj
   ·simpa [Addr.add, h0] using hcj) (by rw [hlen, arrv_size]; exact hfit) (fun u hu => by
   obtain ⟨j, hj, rfl⟩ := List.mem_map.1 hu
   rfl)
 have e : (splice (arrv n T).toList off (ints m D)).toArray = arrv n (midF T off m D) := splice_mid T D n off m hfit
 refine wpList_plain hgd fun K hK => ?_
 unfold Oper.wp
 have e2 : (splice (arrv n T).toList off (ints m D)) = List.take off (arrv n T).toList ++ (ints m D ++ List.drop (off + (ints m D).length) (arrv n T).toList) := rfl
 rw [e2, hlen] at e
 simp [execOp, ho, resolve, invoke, builtin, hd, hs, hrun, Result.andThen, hlen, goInt]
 rw [e]
 exact hK _ _ h
open Go in
/-- The results of a function that gives three rows. -/
theorem results_rows3 {P : Program} {fn : Func} {p q u : Tmp} {ty ty' ty2 : TypeId} (h : fn.results = #[.cell p ty, .cell q ty', .cell u ty2]) (tmps : Array Value) (w : World) (g g' g2 : Nat) (t t' t2 : TypeId) (cs cs' cs2 : Array Value) (fr fr' fr2 : Nat × Nat) (d d' d2 : TypeDesc)
  (hp : tmps.getD p undef = .pointer (some ⟨g, 0, none⟩)) (hg : w.heap[g]? = some (.cells cs t fr))
  (hu : P.underlying ty = some d) (hd : (match d with | .struct _ | .array _ _ => true | _ => false) = true) (hi : (P.info? ty).map (·.size) = some cs.size)
  (hp' : tmps.getD q undef = .pointer (some ⟨g', 0, none⟩)) (hg' : w.heap[g']? = some (.cells cs' t' fr'))
  (hu' : P.underlying ty' = some d') (hd' : (match d' with | .struct _ | .array _ _ => true | _ => false) = true) (hi' : (P.info? ty').map (·.size) = some cs'.size)
  (hp2 : tmps.getD u undef = .pointer (some ⟨g2, 0, none⟩)) (hg2 : w.heap[g2]? = some (.cells cs2 t2 fr2))
  (hu2 : P.underlying ty2 = some d2) (hd2 : (match d2 with | .struct _ | .array _ _ => true | _ => false) = true) (hi2 : (P.info? ty2).map (·.size) = some cs2.size) :
  (results fn tmps).run P w = .ok (.tuple #[.agg cs, .agg cs', .agg cs2]) w := by
 have e1 : tmps[p]?.getD undef = .pointer (some ⟨g, 0, none⟩) := by simpa using hp
 have e2 : tmps[q]?.getD undef = .pointer (some ⟨g', 0, none⟩) := by simpa using hp'
 have e3 : tmps[u]?.getD undef = .pointer (some ⟨g2, 0, none⟩) := by simpa using hp2
 simp [results, h, e1, e2, e3, asAddr, run_loadVar_row w g t ty cs fr d hg hu hd hi, run_loadVar_row w g' t' ty' cs' fr' d' hg' hu' hd' hi', run_loadVar_row w g2 t2 ty2 cs2 fr2 d2 hg2 hu2 hd2 hi2]
theorem idl : (Tryz.prog.info? 40).map (·.size) = some 10 := by kernel_rfl
theorem itd : (Tryz.prog.info? 42).map (·.size) = some 11 := by kernel_rfl
theorem zdl : (#[.int .i64 0, .int .i64 0, .int .i64 0, .int .i64 0, .int .i64 0, .int .i64 0, .int .i64 0, .int .i64 0, .int .i64 0, .int .i64 0] : Array Value) = arrv 10 (fun _ => 0) := by kernel_rfl
theorem ztd : (#[.int .i64 0, .int .i64 0, .int .i64 0, .int .i64 0, .int .i64 0, .int .i64 0, .int .i64 0, .int .i64 0, .int .i64 0, .int .i64 0, .int .i64 0] : Array Value) = arrv 11 (fun _ => 0) := by kernel_rfl
/-- No jump. -/
def dl0 : Nat → Int := fun i => if i = 0 then 1073741824 else 0
/-- A jump of a kind. -/
def tdF (d : Nat → Int) (k : Int) : Nat → Int := fun i => if i < 10 then d i else k
open Go in
theorem run_build_dl {o : Oper} {ev : Operand → Value} {w : World} (x : Operand) (ho : o.op = .build 40 #[(0, x)]) {f : Nat → Int} (hx : ev x = .agg (arrv 4 f)) :
  (execOp ev o).run Tryz.prog w = .ok (.value (.agg (arrv 10 (fun i => if i < 4 then f i else 0)))) w := by
 unfold execOp
 simp only [ho, List.map_toArray, List.map_cons, List.map_nil, hx]
 kernel_rfl
open Go in
theorem run_build_td {o : Oper} {ev : Operand → Value} {w : World} (x : Operand) (k : Int) (ho : o.op = .build 42 #[(0, x), (1, .const (.int .i64 k))]) (hk : ev (.const (.int .i64 k)) = .int .i64 k) {f : Nat → Int} (hx : ev x = .agg (arrv 10 f)) :
  (execOp ev o).run Tryz.prog w = .ok (.value (.agg (arrv 11 (tdF f k)))) w := by
 unfold execOp
 simp only [ho, List.map_toArray, List.map_cons, List.map_nil, hx, hk]
 kernel_rfl
theorem nothing_any (w : World) : Calls Tryz.prog 19 #[] w fun e w' => e = .returned (.agg (arrv 10 dl0)) ∧ Below w.heap.size w w' := by
 have R0 := Lib.hid (show Blk (w.alloc (.cells #[.int .i64 0, .int .i64 0, .int .i64 0, .int .i64 0, .int .i64 0, .int .i64 0, .int .i64 0, .int .i64 0, .int .i64 0, .int .i64 0] 40)) w.heap.size 40 10 (fun _ => 0) by rw [zdl]; exact Blk.new _ _ _ _)
 have B0 := Lib.hid (show Below w.heap.size w (w.alloc (.cells #[.int .i64 0, .int .i64 0, .int .i64 0, .int .i64 0, .int .i64 0, .int .i64 0, .int .i64 0, .int .i64 0, .int .i64 0, .int .i64 0] 40)) by (repeat (first | with_reducible exact Below.refl _ _ | with_reducible apply Below.drew | (with_reducible refine below_drewN ?_ _) | (with_reducible refine Below.alloc ?_ (by (try simp) <;> omega) _) | (with_reducible refine Below.setCell ?_ (by (try simp) <;> omega) _))))
 have E0 := Lib.hid (show arrv 10 (fun i => if i < 4 then oneQ i else 0) = arrv 10 dl0 from arrv_congr (by decide))
 go_enter Tryz.func19, Tryz.ntmps19
 go_upto_region 1 with fail
 generalize w.alloc (.cells #[.int .i64 0, .int .i64 0, .int .i64 0, .int .i64 0, .int .i64 0, .int .i64 0, .int .i64 0, .int .i64 0, .int .i64 0, .int .i64 0] 40) = W0 at *
 refine wp_region_lit ?_
 refine wpList_step (fun K hK => ?_)
 go_simp
 (refine (qone_any _).mono ?_); rintro e w1 ⟨rfl, hb⟩; have R1 := Lib.hid (R0.out.below hb); have B1 := Lib.hid (Below.after B0.out hb); clear hb R0 B0
 (try dsimp only)
 (try simp only [Act.put, nA, nB, nC])
 refine hK _ _ ?_
 clear hK K
 refine wpList_val (v := ?_) rfl ?_ ?_
 rotate_left
 ·(refine Eq.trans (run_build_dl (.tmp 1) (by rfl) (by rfl)) ?_; with_reducible rfl)
 (try simp only [Act.put, nA, nB, nC])
 refine wpList_done (w' := ?_) rfl ?_ ?_
 rotate_left
 ·(refine Eq.trans (run_store_row 40 (.tmp 0) (.tmp 2) (by rfl) (w.heap.size) (by rfl) (by rfl) (R1.out) (idl.trans rfl)) ?_; with_reducible rfl)
 (try simp only [Act.put, nA, nB, nC])
 refine wpList_nil ?_
 rw [E0.out]
 have D1 := Lib.hid (R1.out.setRow dl0)
 have B2 := Lib.hid (below_row B1.out (Nat.le_refl _) (arrv 10 dl0))
 generalize w1.setRow w.heap.size (arrv 10 dl0) = W2 at *
 go_wp2_with fail
 refine bodyPost_ret (results_cell_row Tryz.results19 _ _ w.heap.size 40 (arrv 10 dl0) (0, 0) _ rfl D1.out Tryz.underlying40 rfl (idl.trans (by rw [arrv_size]))) rfl ⟨rfl, B2.out⟩
end Go.Proofs.YtgfklheepkgedaaGreat
