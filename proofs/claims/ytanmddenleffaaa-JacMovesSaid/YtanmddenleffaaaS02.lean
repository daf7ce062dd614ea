/- Contracts and plain laws beyond the other parts, 2: they hold for all arguments. -/
import Derived.Test.YtanmddenleffaaaQ01
import Derived.Test.YtanmddenleffaaaQ02
import Derived.Test.YtanmddenleffaaaQ03
import Derived.Test.YtanmddenleffaaaQ04
import Derived.Test.YtanmddenleffaaaQ05
import Derived.Test.YtanmddenleffaaaQ06
import Derived.Test.YtanmddenleffaaaQ07
import Derived.Test.YtanmddenleffaaaQ08
import Derived.Test.YtanmddenleffaaaQ09
import Derived.Test.YtanmddenleffaaaQ10
import Derived.Test.YtanmddenleffaaaQ11
import Derived.Test.YtanmddenleffaaaQ12
import Derived.Test.YtanmddenleffaaaQ13
import Derived.Test.YtanmddenleffaaaQ14
import Derived.Test.YtanmddenleffaaaQ15
import Derived.Test.YtanmddenleffaaaQ16
import Derived.Test.YtanmddenleffaaaQ17
import Derived.Test.YtanmddenleffaaaQ18
import Derived.Test.YtanmddenleffaaaQ19
import Derived.Test.YtanmddenleffaaaQ20
import Derived.Test.YtanmddenleffaaaS01
namespace Go.Proofs.Ytanmddenleffaaa
/-- The numbers of a run, and of At. -/
structure RunO (W e f : Nat → Int) : Prop where
  d : ∀ j, j < 24 → f (276 + j) = DD W e (23 - j)
  u : ∀ i l, i < l → l < 24 → f (pl i l) = UU W e i (23 - l)
end Go.Proofs.Ytanmddenleffaaa
namespace Go.Proofs.Ytanmddenleffaaa
/-- A number of the covariance, exactly (in units of 2^-60). -/
def PP (f : Nat → Int) (k m : Nat) : Int := sg (fun p => uV f k p * uV f m p * f (276 + p)) 24
theorem uV_low {f : Nat → Int} {a p : Nat} (h : p < a) : uV f a p = 0 := by unfold uV; rw [if_neg (by omega), if_neg (by omega)]
theorem uV_self (f : Nat → Int) (a : Nat) : uV f a a = 1073741824 := by unfold uV; rw [if_pos rfl]
theorem uV_up {f : Nat → Int} {a p : Nat} (h : a < p) : uV f a p = f (pl a p) := by unfold uV; rw [if_neg (by omega), if_pos h]
section
variable {W e f : Nat → Int} {P : Nat → Prop} (H : RunH W e P) (O : RunO W e f)
end
end Go.Proofs.Ytanmddenleffaaa
namespace Go.Proofs.Ytanmddenleffaaa
theorem ab_mul_le {x y X Y : Int} (hx : ab x ≤ X) (hy : ab y ≤ Y) : ab (x * y) ≤ X * Y := by
  rw [ab_mul]
  have := (ab_bd x).1
  have := (ab_bd y).1
  exact Int.mul_le_mul hx hy (by omega) (by omega)
/-- A row's number, by its square and the weight. -/
theorem ent_of_gr {a e : Nat → Int} (he : WtB e) (hg : gr a a e ≤ 50706024009129176059868128215040) {k : Nat} (hk : k < 48) (hw : 17179869184 ≤ e k) : ab (a k) ≤ 54760833024 := by
  have h1 : a k * a k * e k ≤ gr a a e := sg_one (f := fun k => a k * a k * e k) hk fun k hk => Int.mul_nonneg (sq_nn _) (he k hk).1
  refine Decidable.byContradiction fun hc => ?_
  have h2 : ab (a k) * ab (a k) = a k * a k := by
    rcases (show ab (a k) = a k ∨ ab (a k) = -(a k) by unfold ab; omega) with h | h <;> rw [h]
    exact Int.neg_mul_neg _ _
  have h3 : (54760833024 : Int) * 54760833024 ≤ ab (a k) * ab (a k) := Int.mul_le_mul (by omega) (by omega) (by decide) (ab_bd _).1
  rw [h2] at h3
  have h4 : (54760833024 : Int) * 54760833024 * 17179869184 ≤ a k * a k * e k := Int.mul_le_mul h3 hw (by decide) (sq_nn _)
  omega
/-- The factors, the matrix, the noise. -/
structure ClH (p F q : Nat → Int) : Prop where
  u : ∀ x, x < 276 → ab (p x) ≤ 268435455
  d : ∀ i, i < 24 → 17179869184 ≤ p (276 + i) ∧ p (276 + i) ≤ 8813272891391
  f : ∀ i m, i < 24 → m < 24 → ab (F (i * 24 + m) - (if i = m then 1073741824 else 0)) ≤ 16777215
  q : ∀ i, i < 24 → 17179869184 ≤ q i ∧ q i ≤ 566935683071
section
variable {p F q : Nat → Int} (C : ClH p F q)
include C
theorem ClH.uv {a k : Nat} (hk : k < 24) : ab (uV p a k) ≤ if a = k then 1073741824 else 268435455 := by
  by_cases h : a = k
  · subst h; rw [uV_self, if_pos rfl]; decide
  · rw [if_neg h]
    by_cases h2 : a < k
    · rw [uV_up h2]; exact C.u _ (pl_lt h2 hk)
    · rw [uV_low (by omega)]; decide
theorem ClH.uv1 {a k : Nat} (hk : k < 24) : ab (uV p a k) ≤ 1073741824 := by
  have := C.uv (a := a) hk
  split at this <;> omega
theorem ClH.cond : (∀ x, x < 300 → condF p x = p x) ∧ condH p = false := by
  constructor
  · intro x hx
    unfold condF
    split
    · next h => exact satV_sb (sb_ab (C.u x h) (by decide))
    · next h =>
      have := C.d (x - 276) (by omega)
      rw [show 276 + (x - 276) = x by omega] at this
      exact (cl_varV (by omega) (by omega)).1
  · unfold condH
    rw [cl_orB, cl_orB]; rfl
    · intro i hi; exact satH_sb (sb_ab (C.u i hi) (by decide))
    · intro i hi; have := C.d i hi; exact (cl_varV (by omega) (by omega)).2
theorem ClH.fsb {i m : Nat} (hi : i < 24) (hm : m < 24) : ab (F (i * 24 + m)) ≤ (if i = m then 1073741824 else 0) + 16777215 := by
  have := C.f i m hi hm
  by_cases h : i = m
  · rw [if_pos h] at this ⊢
    have a := ab_bd (F (i * 24 + m) - 1073741824)
    exact le_ab (by omega)
  · rw [if_neg h] at this ⊢
    have a := ab_bd (F (i * 24 + m) - 0)
    exact le_ab (by omega)
theorem ClH.fs {x : Nat} (hx : x < 576) : satV (F x) = F x ∧ satH (F x) = false := by
  have := C.fsb (i := x / 24) (m := x % 24) (by omega) (by omega)
  rw [show x / 24 * 24 + x % 24 = x by omega] at this
  have s : SB (F x) := by split at this <;> exact sb_ab this (by decide)
  exact ⟨satV_sb s, satH_sb s⟩
/-- The exact product of the matrix and U. -/
def clC (p F : Nat → Int) (i k : Nat) : Int := sg (fun m => F (i * 24 + m) * uV p m k) 24
theorem ClH.c_near {i k : Nat} (hi : i < 24) (hk : k < 24) : ab (clC p F i k - 1073741824 * uV p i k) ≤ 16777215 * 7247757289 := by
  have e1 : clC p F i k - 1073741824 * uV p i k = sg (fun m => (F (i * 24 + m) - (if i = m then 1073741824 else 0)) * uV p m k) 24 := by
    have : sg (fun m => (if i = m then 1073741824 else 0) * uV p m k) 24 = 1073741824 * uV p i k := by
      rw [sg_only hi fun m _ hm => by rw [if_neg (by omega), Int.zero_mul], if_pos rfl]
    have h2 : clC p F i k = sg (fun m => (F (i * 24 + m) - (if i = m then 1073741824 else 0)) * uV p m k) 24 + sg (fun m => (if i = m then 1073741824 else 0) * uV p m k) 24 := by
      unfold clC
      rw [← sg_add]
      exact sg_congr fun m _ => by grind
    omega
  rw [e1]
  refine Int.le_trans (sg_bd fun m hm => C.f i m hi hm) (Int.mul_le_mul_of_nonneg_left ?_ (by decide))
  have h := sg_le (f := fun m => ab (uV p m k)) (g := fun m => 268435455 + (if m = k then 805306369 else 0)) (n := 24) fun m _ => by
    have := C.uv (a := m) hk
    split at this <;> split <;> omega
  rw [sg_add, sg_const, sg_only hk fun m _ hm => if_neg hm, if_pos rfl] at h
  omega
theorem ClH.c_bd {i k : Nat} (hi : i < 24) (hk : k < 24) : ab (clC p F i k) ≤ 1073741824 * (if i = k then 1186988034 else 381681666) := by
  have a := C.c_near hi hk
  have b := C.uv (a := i) hk
  have c := ab_bd (clC p F i k - 1073741824 * uV p i k)
  have d := ab_bd (uV p i k)
  split at b <;> exact le_ab (by omega)
theorem ClH.w_left {i k : Nat} (hi : i < 24) (hk : k < 24) : stepW p F (i * 48 + k) = rsh (clC p F i k) 30 ∧ rwB (condF p) (fS F 24 0) i k = false := by
  have e1 : (i * 48 + k) / 48 = i := by omega
  have e2 : (i * 48 + k) % 48 = k := by omega
  have eF : ∀ m, m < 24 → rowF 24 (fS F 24 0) i m = F (i * 24 + m) := fun m hm => by
    have : (i * 24 + m) / 24 = i := by omega
    unfold rowF fS
    rw [this, if_pos (.inl hi)]; exact (C.fs (by omega)).1
  have eU : ∀ m, m < 24 → colF (condF p) k m = uV p m k := fun m hm => by
    unfold colF
    split
    · next h =>
      by_cases h2 : m = k
      · subst h2; rw [uV_self, uV_self]
      · rw [uV_up (by omega), uV_up (by omega), C.cond.1 _ (by have := pl_lt (i := m) (j := k) (by omega) hk; omega)]
    · rw [uV_low (by omega)]
  have hs : sg (fun m => rowF 24 (fS F 24 0) i m * colF (condF p) k m) 24 = clC p F i k := sg_congr fun m hm => by rw [eF m hm, eU m hm]
  have c := C.c_bd hi hk
  have r : ab (rsh (clC p F i k) 30) ≤ 1186988034 := rsh_ab (Int.le_trans c (by split <;> decide))
  have dv := dotV_sg (A := rowF 24 (fS F 24 0) i) (B := colF (condF p) k) (n := 24) (fun m hm => by
    rw [eF m hm, eU m hm]
    have a := C.fsb hi hm
    have b := C.uv1 (a := m) hk
    refine ⟨?_, sb_ab b (by decide)⟩
    split at a <;> exact sb_ab a (by decide)) (by rw [hs]; exact sb_ab r (by decide))
  rw [hs] at dv
  unfold stepW rowsW rwB
  rw [e1, e2, if_pos hk]
  exact dv
omit C in
theorem cl_right {i m : Nat} (hi : i < 24) (hm : m < 24) : stepW p F (i * 48 + (24 + m)) = if m = i then 1073741824 else 0 := by
  have e1 : (i * 48 + (24 + m)) / 48 = i := by omega
  have e2 : (i * 48 + (24 + m)) % 48 = 24 + m := by omega
  unfold stepW rowsW
  rw [e1, e2, if_neg (by omega)]
  by_cases h : m = i
  · rw [if_pos (by omega), if_pos h]
  · rw [if_neg (by omega), if_neg h]
theorem ClH.e_left {k : Nat} (hk : k < 24) : stepE p q k = p (276 + k) := by
  unfold stepE eS
  rw [if_pos hk, C.cond.1 _ (by omega)]
theorem ClH.e_right {k : Nat} (hk : k < 24) : stepE p q (24 + k) = q k := by
  have := C.q k hk
  unfold stepE eS
  rw [if_neg (by omega), if_pos (by omega), show 24 + k - 24 = k by omega]
  exact (qV_id (by omega) (by omega)).1
theorem ClH.wt : WtB (stepE p q) := fun k hk => by
  by_cases h : k < 24
  · rw [C.e_left h]; have := C.d k h; omega
  · obtain ⟨m, rfl⟩ : ∃ m, k = 24 + m := ⟨k - 24, by omega⟩
    rw [C.e_right (by omega)]; have := C.q m (by omega); omega
theorem ClH.wt_big {k : Nat} (hk : k < 48) : 17179869184 ≤ stepE p q k := by
  by_cases h : k < 24
  · rw [C.e_left h]; exact (C.d k h).1
  · obtain ⟨m, rfl⟩ : ∃ m, k = 24 + m := ⟨k - 24, by omega⟩
    rw [C.e_right (by omega)]; exact (C.q m (by omega)).1
theorem ClH.g_own {i : Nat} (hi : i < 24) : gr (rowF 48 (stepW p F) i) (rowF 48 (stepW p F) i) (stepE p q) ≤ 50700000000000000000000000000000 := by
  have key : ∀ k, k < 48 → rowF 48 (stepW p F) i k * rowF 48 (stepW p F) i k * stepE p q k ≤ (if k = i then 12420000000000000000000000000000 else 0) + ((if k = 24 + i then 660000000000000000000000000000 else 0) + (if k < 24 then 1290000000000000000000000000000 else 0)) := by
    intro k hk
    unfold rowF
    have sq : ∀ x : Int, x * x = ab x * ab x := fun x => by
      rcases (show ab x = x ∨ ab x = -x by unfold ab; omega) with h | h <;> rw [h]
      exact (Int.neg_mul_neg _ _).symm
    have e0 := (C.wt k hk).1
    by_cases h : k < 24
    · have c := C.c_bd hi h
      have b := rsh_ab c
      rw [← (C.w_left hi h).1] at b
      have d := C.d k h
      rw [C.e_left h, sq]
      rw [if_neg (show ¬ k = 24 + i by omega), if_pos h]
      by_cases h2 : k = i
      · rw [if_pos h2]
        rw [if_pos h2.symm] at b
        have m1 := Int.mul_le_mul b b (ab_bd _).1 (by decide)
        have m2 := Int.mul_le_mul m1 d.2 (by omega) (by decide)
        omega
      · rw [if_neg h2]
        rw [if_neg (Ne.symm h2)] at b
        have m1 := Int.mul_le_mul b b (ab_bd _).1 (by decide)
        have m2 := Int.mul_le_mul m1 d.2 (by omega) (by decide)
        omega
    · obtain ⟨m, rfl⟩ : ∃ m, k = 24 + m := ⟨k - 24, by omega⟩
      have d := C.q m (by omega)
      rw [cl_right hi (by omega), C.e_right (by omega), if_neg (show ¬ 24 + m = i by omega), if_neg h]
      by_cases h2 : m = i
      · rw [if_pos h2, if_pos (by omega)]; omega
      · rw [if_neg h2, if_neg (by omega)]; omega
  have s := sg_le key
  rw [sg_add, sg_add, sg_only (show i < 48 by omega) (fun k _ h => if_neg h), sg_only (show 24 + i < 48 by omega) (fun k _ h => if_neg h), if_pos rfl, if_pos rfl] at s
  have e3 : sg (fun k => if k < 24 then (1290000000000000000000000000000 : Int) else 0) 48 = 24 * 1290000000000000000000000000000 := by decide
  rw [e3] at s
  exact Int.le_trans s (by decide)
/-- The noise's numbers in the rows: One in its own, nothing behind. -/
def RgtP (W e : Nat → Int) (n : Nat) : Prop := ∀ m, m < 24 → WN W e n (m * 48 + (24 + m)) = 1073741824 ∧ ∀ i, m < i → i < 24 → WN W e n (i * 48 + (24 + m)) = 0
omit C in
theorem rgt_step {W e : Nat → Int} {n : Nat} (hn : n < 24) (p : RgtP W e n) (S : StO (WN W e n) e (23 - n)) : RgtP W e (n + 1) := by
  intro m hm
  have key : ∀ i, m ≤ i → i < 24 → WN W e (n + 1) (i * 48 + (24 + m)) = WN W e n (i * 48 + (24 + m)) := by
    intro i hmi hi
    show elW (WN W e n) e (23 - n) (23 - n) 0 (i * 48 + (24 + m)) = _
    by_cases h : i < 23 - n
    · rw [S.w i h _ (by omega), (p m hm).2 (23 - n) (by omega) (by omega), Int.mul_zero, show rsh 0 30 = 0 by decide, Int.sub_zero]
    · exact row_ge (by omega) (by omega)
  exact ⟨by rw [key m (Nat.le_refl _) hm]; exact (p m hm).1, fun i h1 h2 => by rw [key i (by omega) h2]; exact (p m hm).2 i h1 h2⟩
theorem ClH.run : RunH (stepW p F) (stepE p q) (RgtP (stepW p F) (stepE p q)) where
  he := C.wt
  p0 := fun m hm => ⟨by show stepW p F _ = _; rw [cl_right hm hm, if_pos rfl], fun i h1 h2 => by show stepW p F _ = _; rw [cl_right h2 hm, if_neg (by omega)]⟩
  g := fun i hi => C.g_own hi
  hN := fun n hn _ hg i hi => by
    have h := sg_le (f := fun k => ab (WN (stepW p F) (stepE p q) n (i * 48 + k))) (g := fun _ => 54760833024) (n := 48) fun k hk => ent_of_gr (a := rowF 48 (WN (stepW p F) (stepE p q) n) i) C.wt (hg i hi) hk (C.wt_big hk)
    rw [sg_const] at h
    omega
  hS := fun n hn p => .inl ⟨24 + (23 - n), by omega, (p (23 - n) (by omega)).1, C.wt_big (by omega)⟩
  hP := fun n hn p _ S => rgt_step hn p S
theorem ClH.flag : stepH p F q = false := by
  unfold stepH
  have h1 : loop1H q F 24 = false := by
    unfold loop1H row1H
    refine cl_orB fun i hi => ?_
    have := C.q i hi
    rw [(qV_id (a := q i) (by omega) (by omega)).2, cl_orB fun k hk => (C.fs (by omega)).2]; rfl
  have h2 : rowsH (condF p) (fS F 24 0) = false := by
    unfold rowsH rwH
    exact cl_orB fun k hk => cl_orB fun i hi => (C.w_left hi hk).2
  rw [C.cond.2, h1, h2, (C.run.all 24 (Nat.le_refl _)).2.flag]; rfl
end
end Go.Proofs.Ytanmddenleffaaa
namespace Go.Proofs.Ytanmddenleffaaa
theorem dot_err {A B : Nat → Int} {n : Nat} {X Y Z : Int} (hA : ∀ k, k < n → ab (A k) ≤ X) (hB : ∀ k, k < n → ab (B k) ≤ Y) (hX : X ≤ 1152921504606846976) (hY : Y ≤ 1152921504606846976) (hZ : (n : Int) * (X * Y) ≤ 1073741824 * Z) (hZ2 : Z ≤ 1152921504606846976) :
    2 * ab (1073741824 * dotV 30 A B n - sg (fun k => A k * B k) n) ≤ 1073741824 ∧ dotH 30 A B n = false ∧ ab (dotV 30 A B n) ≤ Z := by
  have h1 : ab (sg (fun k => A k * B k) n) ≤ 1073741824 * Z := by
    refine Int.le_trans (sg_ab _ _) (Int.le_trans (sg_le (g := fun _ => X * Y) fun k hk => ab_mul_le (hA k hk) (hB k hk)) ?_)
    rw [sg_const]; exact hZ
  have h2 := rsh_ab h1
  have dv := dotV_sg (A := A) (B := B) (n := n) (fun k hk => ⟨sb_ab (hA k hk) hX, sb_ab (hB k hk) hY⟩) (sb_ab h2 hZ2)
  rw [dv.1]
  exact ⟨rsh_two _, dv.2, h2⟩
theorem ro_bd {Q : Nat → Int} {X : Int} (h : ∀ i, i < 4 → ab (Q i) ≤ X) {k j : Nat} (hk : k < 9) (hj : j < 4) : ab (roA Q k j) ≤ X ∧ ab (roB Q k j) ≤ X := by
  have h0 := h 0 (by decide)
  have h1 := h 1 (by decide)
  have h2 := h 2 (by decide)
  have h3 := h 3 (by decide)
  have n0 : ab (-(Q 0)) ≤ X := by rw [ab_neg]; exact h0
  have n1 : ab (-(Q 1)) ≤ X := by rw [ab_neg]; exact h1
  have n2 : ab (-(Q 2)) ≤ X := by rw [ab_neg]; exact h2
  have n3 : ab (-(Q 3)) ≤ X := by rw [ab_neg]; exact h3
  rcases (show k = 0 ∨ k = 1 ∨ k = 2 ∨ k = 3 ∨ k = 4 ∨ k = 5 ∨ k = 6 ∨ k = 7 ∨ k = 8 by omega) with rfl | rfl | rfl | rfl | rfl | rfl | rfl | rfl | rfl <;>
    rcases (show j = 0 ∨ j = 1 ∨ j = 2 ∨ j = 3 by omega) with rfl | rfl | rfl | rfl <;>
    exact ⟨by first | exact h0 | exact h1 | exact h2 | exact h3 | exact n0 | exact n1 | exact n2 | exact n3, by first | exact h0 | exact h1 | exact h2 | exact h3 | exact n0 | exact n1 | exact n2 | exact n3⟩
theorem sat_id4 {Q : Nat → Int} {X : Int} {n : Nat} (h : ∀ i, i < n → ab (Q i) ≤ X) (hX : X ≤ 1152921504606846976) : ∀ i, i < n → satF Q i = Q i := fun i hi => satV_sb (sb_ab (h i hi) hX)
/-- The sums that Turned rounds. -/
def tuS (Q A : Nat → Int) (r j : Nat) : Int := if j = 0 then sg (fun k => fiA Q r k * fiB A r k) 6 else sg (fun k => suA Q r (j - 1) k * suB A r (j - 1) k) (suN r (j - 1))
def roS (Q : Nat → Int) (k : Nat) : Int := sg (fun j => roA Q k j * roB Q k j) 4
section
variable {q a d : Nat → Int} (hq : ∀ i, i < 4 → ab (q i) ≤ 1073741840) (hd : ∀ i, i < 4 → ab (d i) ≤ 1048576) (ha : ∀ i, i < 3 → ab (a i) ≤ 17179869184)
/-- Was a number of Turned clamped? -/
def tnHj (Q A : Nat → Int) (r j : Nat) : Bool := if j = 0 then dotH 30 (fiA Q r) (fiB A r) 6 else tnI Q A r (j - 1)
include hq ha in
theorem tu_near {r j : Nat} (hr : r < 3) (hj : j < 4) : 2 * ab (1073741824 * tuF q a (r * 4 + j) - tuS q a r j) ≤ 1073741824 ∧ ab (tuF q a (r * 4 + j)) ≤ 180000000000 ∧ tnHj (satF q) (satF a) r j = false := by
  have eq4 := sat_id4 hq (by decide)
  have ea3 := sat_id4 ha (by decide)
  unfold tuF tnF
  rw [show (r * 4 + j) / 4 = r by omega, show (r * 4 + j) % 4 = j by omega]
  have aq : ∀ i, i < 4 → ab (satF q i) ≤ 1073741840 := fun i hi => by rw [eq4 i hi]; exact hq i hi
  have aa : ∀ i, i < 3 → ab (satF a i) ≤ 17179869184 := fun i hi => by rw [ea3 i hi]; exact ha i hi
  have z : ∀ k, ab (zF k) ≤ 1073741840 ∧ ab (zF k) ≤ 17179869184 := fun k => by unfold zF; decide
  have up : ∀ {F : Nat → Int} {X x : Int} (n : Nat), (∀ k, ab (F k) ≤ X) → ab x ≤ X → ∀ k, ab (ap2 F n x k) ≤ X := fun n hF hx k => by
    unfold ap2 upd
    split
    · exact hx
    · split
      · exact hx
      · exact hF k
  have ng : ∀ {x X : Int}, ab x ≤ X → ab (-x) ≤ X := fun h => by rw [ab_neg]; exact h
  have f1 : ∀ k, ab (fiA (satF q) r k) ≤ 1073741840 := up 4 (up 2 (up 0 (fun k => (z k).1) (aq 0 (by decide))) (aq _ (by omega))) (ng (aq _ (by omega)))
  have f2 : ∀ k, ab (fiB (satF a) r k) ≤ 17179869184 := up 4 (up 2 (up 0 (fun k => (z k).2) (aa r hr)) (aa _ (by omega))) (aa _ (by omega))
  by_cases h : j = 0
  · rw [if_pos h]
    have e := dot_err (A := fiA (satF q) r) (B := fiB (satF a) r) (n := 6) (X := 1073741840) (Y := 17179869184) (Z := 180000000000) (fun k _ => f1 k) (fun k _ => f2 k) (by decide) (by decide) (by decide) (by decide)
    have es : tuS q a r j = sg (fun k => fiA (satF q) r k * fiB (satF a) r k) 6 := by
      unfold tuS
      rw [if_pos h]
      unfold fiA fiB
      rw [eq4 0 (by decide), eq4 _ (by omega), eq4 _ (by omega), ea3 r hr, ea3 _ (by omega), ea3 _ (by omega)]
    rw [es]
    exact ⟨e.1, e.2.2, by unfold tnHj; rw [if_pos h]; exact e.2.1⟩
  · rw [if_neg h]
    obtain ⟨i, rfl⟩ : ∃ i, j = i + 1 := ⟨j - 1, by omega⟩
    have hi : i < 3 := by omega
    rw [Nat.add_sub_cancel]
    have s2 : s2A (satF q) r i = s2A q r i ∧ s2B (satF a) r i = s2B a r i := by
      unfold s2A s2B
      rw [eq4 _ (by omega), eq4 _ (by omega), ea3 r hr, ea3 i hi]
      exact ⟨rfl, rfl⟩
    have s5 : ∀ n, n ≤ 3 → s5A (satF q) r i n = s5A q r i n ∧ s5B (satF a) r i n = s5B a r i n := fun n => by
      induction n with
      | zero => exact fun _ => s2
      | succ n ih =>
        intro hn
        unfold s5A s5B
        rw [(ih (by omega)).1, (ih (by omega)).2, eq4 _ (by omega), ea3 _ (by omega)]
        exact ⟨rfl, rfl⟩
    have sA : suA (satF q) r i = suA q r i := by unfold suA; rw [(s5 3 (by decide)).1, s2.1, eq4 0 (by decide)]
    have sB : suB (satF a) r i = suB a r i := by unfold suB; rw [(s5 3 (by decide)).2, s2.2, ea3 _ (by omega), ea3 _ (by omega)]
    rw [sA, sB]
    have b2 : (∀ k, ab (s2A q r i k) ≤ 1073741840) ∧ ∀ k, ab (s2B a r i k) ≤ 17179869184 :=
      ⟨up 2 (up 0 (fun k => (z k).1) (ng (hq _ (by omega)))) (hq _ (by omega)), up 2 (up 0 (fun k => (z k).2) (ha r hr)) (ha i hi)⟩
    have b5 : ∀ n, n ≤ 3 → (∀ k, ab (s5A q r i n k) ≤ 1073741840) ∧ ∀ k, ab (s5B a r i n k) ≤ 17179869184 := fun n => by
      induction n with
      | zero => exact fun _ => b2
      | succ n ih => exact fun hn => ⟨up _ (ih (by omega)).1 (hq _ (by omega)), up _ (ih (by omega)).2 (ha _ (by omega))⟩
    have bA : ∀ k, ab (suA q r i k) ≤ 1073741840 := fun k => by
      unfold suA
      split
      · exact (b5 3 (by decide)).1 k
      · split
        · exact up 4 b2.1 (ng (hq 0 (by decide))) k
        · exact up 4 b2.1 (hq 0 (by decide)) k
    have bB : ∀ k, ab (suB a r i k) ≤ 17179869184 := fun k => by
      unfold suB
      split
      · exact (b5 3 (by decide)).2 k
      · split
        · exact up 4 b2.2 (ha _ (by omega)) k
        · exact up 4 b2.2 (ha _ (by omega)) k
    have e := dot_err (A := suA q r i) (B := suB a r i) (n := suN r i) (X := 1073741840) (Y := 17179869184) (Z := 180000000000) (fun k _ => bA k) (fun k _ => bB k) (by decide) (by decide) (by unfold suN; split <;> decide) (by decide)
    have es : tuS q a r (i + 1) = sg (fun k => suA q r i k * suB a r i k) (suN r i) := by
      unfold tuS
      rw [if_neg (by omega), Nat.add_sub_cancel]
    rw [es]
    exact ⟨e.1, e.2.2, by unfold tnHj tnI; rw [if_neg h, Nat.add_sub_cancel, sA, sB]; exact e.2.1⟩
include hq ha in
theorem tu_flag : tuH q a = false := by
  unfold tuH
  rw [cl_orB fun i hi => satH_sb (sb_ab (hq i hi) (by decide)), cl_orB fun i hi => satH_sb (sb_ab (ha i hi) (by decide)), cl_orB fun r hr => ?_]; rfl
  unfold tnB
  have h0 := (tu_near hq ha hr (show 0 < 4 by decide)).2.2
  unfold tnHj at h0
  rw [if_pos rfl] at h0
  rw [h0, cl_orB fun i hi => ?_]; rfl
  have h1 := (tu_near hq ha hr (show i + 1 < 4 by omega)).2.2
  unfold tnHj at h1
  rw [if_neg (by omega), Nat.add_sub_cancel] at h1
  exact h1
end
end Go.Proofs.Ytanmddenleffaaa
namespace Go.Proofs.Ytanmddenleffaaa
/-- What the accelerometer tells, without its bias. -/
def jmD (S I : Nat → Int) (dt : Int) : Nat → Int := fun k => I (5 + k) - mulV (S (13 + k)) dt 30
structure JmH (S I : Nat → Int) : Prop where
  g : goodB S = true
  z : ∀ i, 24 ≤ i → S i = 0
  us : 1000 ≤ I 1 ∧ I 1 ≤ 100000
  i2 : ∀ k, k < 3 → I (2 + k) = 0
  d : ∀ k, k < 3 → ab (I (5 + k)) ≤ 134217728
  q : ∀ k, k < 3 → S (10 + k) = 0
  a : ∀ k, k < 3 → ab (S (13 + k)) ≤ 16777216
  v : ∀ k, k < 3 → ab (S (4 + k)) ≤ 2000000000
  x : ∀ k, k < 3 → ab (S (7 + k)) ≤ 16777216
/-- The numbers of the two halves. -/
theorem jm_dt {us : Int} (h : 1000 ≤ us ∧ us ≤ 100000) : 1073741 ≤ secV us ∧ secV us ≤ 107374183 ∧ secH us = false ∧ mulH 10529810258 (secV us) 30 = false ∧ ab (mulV 10529810258 (secV us) 30) ≤ 1052981035 ∧ mulH (secV us) 536870912 30 = false ∧
    (0 ≤ mulV (secV us) 536870912 30 ∧ mulV (secV us) 536870912 30 ≤ 53687093) ∧ ab (2 * mulV (secV us) 536870912 30 - secV us) ≤ 1 := by
  have sb := sec_bd h.1 h.2
  have ug := up_g (dt := secV us) (by omega) (by omega)
  have m := ml_small (a := secV us) (b := 536870912) (X := 107374183) (Y := 536870912) (by omega) (by decide) (by decide) (by decide) (by decide)
  have r := rsh_err (secV us * 536870912)
  rw [← m.1] at r
  refine ⟨sb.1, sb.2.1, sb.2.2, ug.1, le_ab (by omega), ug.2.2.2.1, by omega, le_ab (by omega)⟩
set_option maxHeartbeats 4000000 in
theorem jm_step {S I : Nat → Int} (H : JmH S I) : stepH2 S I = false ∧ keepF S = S ∧ keepH S = false ∧ spH S I = false ∧ (∀ i, i < 4 → stepN S I i = uniV S i) ∧
    (∀ k, k < 3 → ab (apV (roV S) (jmD S I (secV (I 1))) k) ≤ 3300000001 ∧ stepN S I (4 + k) = S (4 + k) + apV (roV S) (jmD S I (secV (I 1))) k + (if k = 2 then mulV 10529810258 (secV (I 1)) 30 else 0)) ∧
    (∀ k, k < 3 → stepN S I (7 + k) = S (7 + k) + mulV (S (4 + k) + stepN S I (4 + k)) (mulV (secV (I 1)) 536870912 30) 30) ∧ ∀ i, 10 ≤ i → stepN S I i = S i := by
  have D := jm_dt H.us
  obtain ⟨us, hus⟩ : ∃ x, I 1 = x := ⟨_, rfl⟩
  rw [hus] at D
  rw [hus]
  obtain ⟨dt, hdt⟩ : ∃ x, secV us = x := ⟨_, rfl⟩
  rw [hdt] at D
  rw [hdt]
  obtain ⟨g, hg'⟩ : ∃ x, mulV 10529810258 dt 30 = x := ⟨_, rfl⟩
  obtain ⟨hf, hhf⟩ : ∃ x, mulV dt 536870912 30 = x := ⟨_, rfl⟩
  rw [hg', hhf] at D
  rw [hg', hhf]
  have u := (unitB_iff S).1 (good_parts H.g).2
  have kp := keep_self H.g H.z
  obtain ⟨f0, f4, f7, f11⟩ := spF_at S I
  rw [hus, hdt] at f0 f4 f7
  have hdb : SB dt := by unfold SB; omega
  have hh : SB hf := by unfold SB; omega
  have gd := ab_le D.2.2.2.2.1
  have gb : SB g := by unfold SB; omega
  have pp : ∀ (a k : Nat), a + k < 24 → partF S (a : Int) k = S (a + k) := fun a k h => partF_at _ a k h
  have p10 : ∀ k, k < 3 → partF S 10 k = 0 := fun k hk => by
    have := pp 10 k (by omega); rw [show ((10 : Nat) : Int) = 10 from rfl] at this; rw [this, H.q k hk]
  have p13 : ∀ k, k < 3 → partF S 13 k = S (13 + k) := fun k hk => by
    have := pp 13 k (by omega); rw [show ((13 : Nat) : Int) = 13 from rfl] at this; exact this
  have p4 : ∀ k, k < 3 → partF S 4 k = S (4 + k) := fun k hk => by
    have := pp 4 k (by omega); rw [show ((4 : Nat) : Int) = 4 from rfl] at this; exact this
  have p7 : ∀ k, k < 3 → partF S 7 k = S (7 + k) := fun k hk => by
    have := pp 7 k (by omega); rw [show ((7 : Nat) : Int) = 7 from rfl] at this; exact this
  have z00 : subV 0 0 = 0 ∧ subH 0 0 = false := sub_same (by unfold SB; omega)
  have eA : ∀ k, k < 3 → subV (I (2 + k)) (mulV (partF S 10 k) dt 30) = 0 ∧ subH (I (2 + k)) (mulV (partF S 10 k) dt 30) = false := fun k hk => by
    rw [H.i2 k hk, p10 k hk, ml_zero]; exact z00
  have m13 : ∀ k, k < 3 → mulH (partF S 13 k) dt 30 = false ∧ ab (mulV (S (13 + k)) dt 30) ≤ 1677723 := fun k hk => by
    have a := ab_le (H.a k hk)
    have m := ml_small (a := S (13 + k)) (b := dt) (X := 16777216) (Y := 107374183) a (by omega) (by decide) (by decide) (by decide)
    rw [p13 k hk]
    exact ⟨m.2.1, le_ab (by omega)⟩
  have eD : ∀ k, k < 3 → subV (I (5 + k)) (mulV (partF S 13 k) dt 30) = jmD S I dt k ∧ subH (I (5 + k)) (mulV (partF S 13 k) dt 30) = false ∧ ab (jmD S I dt k) ≤ 135895451 := fun k hk => by
    have a := ab_le (H.d k hk)
    have b := ab_le (m13 k hk).2
    rw [p13 k hk]
    have s := cl_subV (a := I (5 + k)) (b := mulV (S (13 + k)) dt 30) (by unfold SB; omega) (by unfold SB; omega) (by unfold SB; omega)
    exact ⟨s.1, s.2, le_ab (by unfold jmD; omega)⟩
  have ex := ur_exp (v := spA S I 10 2 dt) (fun k hk => (eA k hk).1)
  have tu : ∀ i, i < 4 → (fun i => spF S I (7 + i)) i = oneQ i := fun i hi => by
    show spF S I (7 + i) = oneQ i
    rw [f7 i hi, ex.1]
  have ub : ∀ i, i < 4 → SB (S i) := fun i hi => by have := u.1 i hi; unfold SB; omega
  have qm := rs_qm ub tu
  have un := ur_uni (A := qmV S (fun i => spF S I (7 + i))) (B := S) fun i hi => qm.1 i hi
  have uc : uniH S = false := unit_calm _ fun i hi => by have := u.1 i hi; omega
  have ug2 := unit_good S
  have rc := ro_calm u
  have dd : ∀ k, k < 3 → spF S I (4 + k) = jmD S I dt k := fun k hk => by
    rw [f4 k hk]; exact (eD k hk).1
  -- the matrix
  have rb : ∀ k, k < 9 → ab (roV S k) ≤ 4400000000 := fun k hk => by
    have hQ : ∀ i, i < 4 → ab (satA S i) ≤ 1073741840 := fun i hi => by
      unfold satA; rw [satV_sb (ub i hi)]; exact le_ab (u.1 i hi)
    exact (dot_err (A := roA (satA S) k) (B := roB (satA S) k) (n := 4) (X := 1073741840) (Y := 1073741840) (Z := 4400000000) (fun j hj => (ro_bd hQ hk hj).1) (fun j hj => (ro_bd hQ hk hj).2) (by decide) (by decide) (by decide) (by decide)).2.2
  obtain ⟨P, hP⟩ : ∃ P, spF S I = P := ⟨_, rfl⟩
  rw [hP] at f0 f11 qm un dd
  have ap : ∀ k, k < 3 → stA P k = apV (roV S) (jmD S I dt) k ∧ dotH 30 (fun j => P (11 + (3 * k + j))) (fun i => P (4 + i)) 3 = false ∧ ab (apV (roV S) (jmD S I dt) k) ≤ 3300000001 := fun k hk => by
    have e := dot_err (A := fun j => roV S (3 * k + j)) (B := jmD S I dt) (n := 3) (X := 4400000000) (Y := 135895451) (Z := 3300000001) (fun j hj => rb _ (by omega)) (fun j hj => (eD j hj).2.2) (by decide) (by decide) (by decide) (by decide)
    have c := ur_dot (A := fun j => P (11 + (3 * k + j))) (B := fun i => P (4 + i)) (A' := fun j => roV S (3 * k + j)) (B' := jmD S I dt) (n := 3) fun j hj => ⟨f11 _ (by omega), dd j hj⟩
    exact ⟨c.1, c.2.trans e.2.1, e.2.2⟩
  obtain ⟨A, hA⟩ : ∃ A, apV (roV S) (jmD S I dt) = A := ⟨_, rfl⟩
  rw [hA] at ap
  rw [hA]
  have aH : apH (fun i => P (11 + i)) (fun i => P (4 + i)) = false := by
    unfold apH
    exact orB_noB fun i hi => (ap i hi).2.1
  have eG : stG P = vc3 0 0 g := by unfold stG; rw [f0, hg']
  have g3 : ∀ k, k < 3 → vc3 0 0 g k = if k = 2 then g else 0 := fun k hk => by
    obtain rfl | rfl | rfl : k = 0 ∨ k = 1 ∨ k = 2 := by omega
    all_goals rfl
  have vN : ∀ k, k < 3 → stN S P k = S (4 + k) + A k + (if k = 2 then g else 0) ∧ vaH (v3L (partF S 4) (stA P) (stG P)) 3 k = false := fun k hk => by
    have hvk := ab_le (H.v k hk)
    have ak := ab_le (ap k hk).2.2
    unfold stN
    refine rs_va (by decide) (fun j hj => ?_) ?_ (by unfold SB; split <;> omega)
    · obtain rfl | rfl | rfl : j = 0 ∨ j = 1 ∨ j = 2 := by omega
      · show SB (partF S 4 k); rw [p4 k hk]; unfold SB; omega
      · show SB (stA P k); rw [(ap k hk).1]; unfold SB; omega
      · show SB (stG P k); rw [eG, g3 k hk]; unfold SB; split <;> omega
    · simp only [sumS, v3L]
      rw [p4 k hk, (ap k hk).1, eG, g3 k hk]
      by_cases h : k = 2
      · rw [if_pos h, satV_sb gb, satV_id (by omega) (by omega), satV_id (a := A k) (by omega) (by omega)]; omega
      · rw [if_neg h, show satV 0 = 0 by decide, satV_id (by omega) (by omega), satV_id (a := A k) (by omega) (by omega)]; omega
  have nb : ∀ k, k < 3 → -6400000000 ≤ stN S P k ∧ stN S P k ≤ 6400000000 := fun k hk => by
    have hvk := ab_le (H.v k hk)
    have ak := ab_le (ap k hk).2.2
    rw [(vN k hk).1]; split <;> omega
  have eF : stF P = hf := by unfold stF; rw [f0, hhf]
  have vM : ∀ k, k < 3 → stM S P k = S (4 + k) + stN S P k ∧ vaH (v2L (partF S 4) (stN S P)) 2 k = false := fun k hk => by
    have hvk := ab_le (H.v k hk)
    have nk := nb k hk
    unfold stM
    refine rs_va (by decide) (fun j hj => ?_) ?_ (by unfold SB; omega)
    · obtain rfl | rfl : j = 0 ∨ j = 1 := by omega
      · show SB (partF S 4 k); rw [p4 k hk]; unfold SB; omega
      · show SB (stN S P k); unfold SB; omega
    · simp only [sumS, v2L]
      rw [p4 k hk, satV_id (by omega) (by omega), satV_id (a := stN S P k) (by omega) (by omega)]; omega
  have mL : ∀ k, k < 3 → mulH (stM S P k) hf 30 = false ∧ -5000000000 ≤ mulV (stM S P k) hf 30 ∧ mulV (stM S P k) hf 30 ≤ 5000000000 := fun k hk => by
    have hvk := ab_le (H.v k hk)
    have nk := nb k hk
    have m := ml_small (a := stM S P k) (b := hf) (X := 8400000000) (Y := 53687093) (by rw [(vM k hk).1]; omega) (by omega) (by decide) (by decide) (by decide)
    exact ⟨m.2.1, by omega⟩
  have vX : ∀ k, k < 3 → stX S P k = S (7 + k) + mulV (stM S P k) hf 30 ∧ vaH (v2L (partF S 7) (stL S P)) 2 k = false := fun k hk => by
    have hxk := ab_le (H.x k hk)
    have mk := (mL k hk).2
    have eL : stL S P k = mulV (stM S P k) hf 30 := by unfold stL; rw [eF]
    unfold stX
    refine rs_va (by decide) (fun j hj => ?_) ?_ (by unfold SB; omega)
    · obtain rfl | rfl : j = 0 ∨ j = 1 := by omega
      · show SB (partF S 7 k); rw [p7 k hk]; unfold SB; omega
      · show SB (stL S P k); rw [eL]; unfold SB; omega
    · simp only [sumS, v2L]
      rw [p7 k hk, eL, satV_id (by omega) (by omega), satV_id (a := mulV (stM S P k) hf 30) (by omega) (by omega)]; omega
  obtain ⟨tq, tn, tx, th⟩ := stS_at S P
  have tq' : ∀ i, i < 4 → stS S P i = uniV S i := fun i hi => by rw [tq i hi]; unfold stQ; exact un.1 i hi
  have tu' : UnitQ (stS S P) := unitQ_congr (fun i hi => (tq' i hi).symm) ug2
  have tg : goodB (stS S P) = true := rs_good tu' fun i h4 h24 => by
    have bx := box_at i
    by_cases c2 : i < 7
    · obtain ⟨k, rfl⟩ : ∃ k, i = 4 + k := ⟨i - 4, by omega⟩
      rw [tn k (by omega)]; have := nb k (by omega); omega
    · by_cases c3 : i < 10
      · obtain ⟨k, rfl⟩ : ∃ k, i = 7 + k := ⟨i - 7, by omega⟩
        rw [tx k (by omega), (vX k (by omega)).1]; have := ab_le (H.x k (by omega)); have := (mL k (by omega)).2; omega
      · rw [th i (by omega)]; exact (good_parts H.g).1 i h24
  have tk := keep_self tg (fun i hi => by rw [th i (by omega)]; exact H.z i hi)
  have eN : stepN S I = stS S P := by unfold stepN; rw [kp.1, hP]; exact tk.1
  have hs : spH S I = false := by
    unfold spH spAH
    rw [show ((10 : Nat) : Int) = 10 from rfl, show ((13 : Nat) : Int) = 13 from rfl, hus, hdt, D.2.2.1, ex.2, rc,
      orB_noB (p := fun i => mulH (partF S 10 i) dt 30) fun k hk => by rw [p10 k hk]; exact mlH_zero hdb,
      orB_noB (p := fun i => mulH (partF S 13 i) dt 30) fun k hk => (m13 k hk).1,
      orB_noB (p := fun i => subH (I (2 + i)) (mulV (partF S 10 i) dt 30)) fun k hk => (eA k hk).2,
      orB_noB (p := fun i => subH (I (5 + i)) (mulV (partF S 13 i) dt 30)) fun k hk => (eD k hk).2.1]
    rfl
  refine ⟨?_, kp.1, kp.2, hs, fun i hi => by rw [eN]; exact tq' i hi, fun k hk => ⟨(ap k hk).2.2, by rw [eN, tn k hk]; exact (vN k hk).1⟩, fun k hk => ?_, fun i hi => by rw [eN]; exact th i hi⟩
  · unfold stepH2
    rw [kp.1, kp.2, hP, hs]
    unfold stHH
    rw [qm.2, un.2, uc, aH, f0, D.2.2.2.1, D.2.2.2.2.2.1, eF, tk.2,
      orB_noB (p := vaH (v3L (partF S 4) (stA P) (stG P)) 3) fun k hk => (vN k hk).2,
      orB_noB (p := vaH (v2L (partF S 4) (stN S P)) 2) fun k hk => (vM k hk).2,
      orB_noB (p := fun i => mulH (stM S P i) hf 30) fun k hk => (mL k hk).1,
      orB_noB (p := vaH (v2L (partF S 7) (stL S P)) 2) fun k hk => (vX k hk).2]
    rfl
  · rw [eN, tx k hk, tn k hk, (vX k hk).1, (vM k hk).1]
end Go.Proofs.Ytanmddenleffaaa
namespace Go.Proofs.Ytanmddenleffaaa
theorem two_sq (x y : Int) : -(x * x + y * y) ≤ 2 * (x * y) ∧ 2 * (x * y) ≤ x * x + y * y := by
  have p := sq_nn (x - y)
  have q := sq_nn (x + y)
  have e1 : (x - y) * (x - y) = x * x - 2 * (x * y) + y * y := by grind
  have e2 : (x + y) * (x + y) = x * x + 2 * (x * y) + y * y := by grind
  omega
theorem ros_sq (Q : Nat → Int) {k : Nat} (hk : k < 9) : ab (roS Q k) ≤ Q 0 * Q 0 + Q 1 * Q 1 + Q 2 * Q 2 + Q 3 * Q 3 := by
  have s0 := sq_nn (Q 0)
  have s1 := sq_nn (Q 1)
  have s2 := sq_nn (Q 2)
  have s3 := sq_nn (Q 3)
  have a := two_sq (Q 0) (Q 1)
  have b := two_sq (Q 0) (Q 2)
  have c := two_sq (Q 0) (Q 3)
  have d := two_sq (Q 1) (Q 2)
  have e := two_sq (Q 1) (Q 3)
  have f := two_sq (Q 2) (Q 3)
  rcases (show k = 0 ∨ k = 1 ∨ k = 2 ∨ k = 3 ∨ k = 4 ∨ k = 5 ∨ k = 6 ∨ k = 7 ∨ k = 8 by omega) with rfl | rfl | rfl | rfl | rfl | rfl | rfl | rfl | rfl <;>
    (simp [roS, sg, roA, roB, q4, Int.neg_mul, Int.mul_neg]; exact le_ab (by omega))
/-- The matrix of a quaternion near One: its numbers are at most One. -/
theorem ro_one {S : Nat → Int} (u : UnitQ S) {k : Nat} (hk : k < 9) : ab (roV S k) ≤ 1073741829 := by
  have ub : ∀ i, i < 4 → satA S i = S i := fun i hi => by have := u.1 i hi; exact satV_id (by omega) (by omega)
  have hQ : ∀ i, i < 4 → ab (satA S i) ≤ 1073741840 := fun i hi => by rw [ub i hi]; exact le_ab (u.1 i hi)
  have e := dot_err (A := roA (satA S) k) (B := roB (satA S) k) (n := 4) (X := 1073741840) (Y := 1073741840) (Z := 4400000000) (fun j hj => (ro_bd hQ hk hj).1) (fun j hj => (ro_bd hQ hk hj).2) (by decide) (by decide) (by decide) (by decide)
  have s := ab_le (ros_sq (satA S) hk)
  rw [ub 0 (by decide), ub 1 (by decide), ub 2 (by decide), ub 3 (by decide)] at s
  have e1 : 2 * ab (1073741824 * roV S k - roS (satA S) k) ≤ 1073741824 := e.1
  have q := u.2
  have x := ab_le (show ab (1073741824 * roV S k - roS (satA S) k) ≤ 536870912 by omega)
  exact le_ab (by omega)
/-- The matrix' column of a state. -/
theorem jm_f {S I : Nat → Int} (hk : keepF S = S) {k c : Nat} (h1 : k < 24) (h2 : c < 24) (hc : 4 ≤ c ∧ (c < 10 ∨ 13 ≤ c)) :
    jofF S I (k * 24 + c) = if k = c then 1073741824 else if 4 ≤ k ∧ k < 7 ∧ 13 ≤ c ∧ c < 16 then -(mulV (roV S (3 * (k - 4) + (c - 13))) (secV (I 1)) 30) else if 7 ≤ k ∧ k < 10 ∧ c = k - 3 then secV (I 1) else 0 := by
  obtain ⟨f0, _, _, f11⟩ := spF_at S I
  unfold jofF joM
  rw [hk, show (k * 24 + c) / 24 = k by omega, show (k * 24 + c) % 24 = c by omega, oneF_at h2, f0]
  by_cases a : k < 4
  · rw [if_pos a, if_neg (by omega), if_neg (by omega), if_neg (by omega), if_neg (by omega), if_neg (by omega), if_neg (by omega)]
  · rw [if_neg a]
    by_cases b : k < 7
    · rw [if_pos b, if_neg (by omega)]
      by_cases d : 13 ≤ c ∧ c < 16
      · rw [if_pos d, if_neg (by omega), if_pos (by omega), show (k - 4) * 3 + (c - 13) = 3 * (k - 4) + (c - 13) by omega, f11 _ (by omega)]
      · rw [if_neg d]
        by_cases e : k = c
        · rw [if_pos e, if_pos e]
        · rw [if_neg e, if_neg e, if_neg (by omega), if_neg (by omega)]
    · rw [if_neg b]
      by_cases d : k < 10 ∧ c = k - 3
      · rw [if_pos d, if_neg (by omega), if_neg (by omega), if_pos (by omega)]
      · rw [if_neg d]
        by_cases e : k = c
        · rw [if_pos e, if_pos e]
        · rw [if_neg e, if_neg e, if_neg (by omega), if_neg (by omega)]
theorem jo_bd {q : Nat → Int} (hq : ∀ i, i < 4 → ab (q i) ≤ 1073741840) (x : Nat) : ab (joB q x) ≤ 1073741840 := by
  have h0 := hq 0 (by decide)
  have h1 := hq 1 (by decide)
  have h2 := hq 2 (by decide)
  have h3 := hq 3 (by decide)
  have n1 := ab_neg (q 1)
  have n2 := ab_neg (q 2)
  have n3 := ab_neg (q 3)
  unfold joB
  repeat' split
  all_goals omega
/-- The matrix is made without a clamp. -/
theorem jm_of {S I : Nat → Int} (H : JmH S I) : jofH S I = false := by
  have T := jm_step H
  have D := jm_dt H.us
  have u := (unitB_iff S).1 (good_parts H.g).2
  obtain ⟨f0, f4, _, f11⟩ := spF_at S I
  have hq : ∀ i, i < 4 → ab (S i) ≤ 1073741840 := fun i hi => le_ab (u.1 i hi)
  have dt := D.2.1
  have dt0 := D.1
  have dv : ∀ k, k < 3 → ab ((fun i => spF S I (4 + i)) k) ≤ 17179869184 := fun k hk => by
    show ab (spF S I (4 + k)) ≤ _
    rw [f4 k hk]
    unfold spA
    rw [partF_at S 13 k (by omega)]
    have a := ab_le (H.a k hk)
    have b := ab_le (H.d k hk)
    have m := ml_small (a := S (13 + k)) (b := secV (I 1)) (X := 16777216) (Y := 107374183) a (by omega) (by decide) (by decide) (by decide)
    have s := cl_subV (a := I (5 + k)) (b := mulV (S (13 + k)) (secV (I 1)) 30) (by unfold SB; omega) (by unfold SB; omega) (by unfold SB; omega)
    rw [s.1]
    exact le_ab (by omega)
  have tf := tu_flag hq dv
  unfold jofH joH
  rw [T.2.1, T.2.2.1, T.2.2.2.1, f0, D.2.2.2.2.2.1, tf,
    cl_orB fun r hr => cl_orB (p := joB1 (spF S I) S r) fun k hk => ?_, cl_orB fun r hr => cl_orB (p := joB2 (spF S I) r) fun k hk => ?_]
  · rfl
  · unfold joB2
    have b := ab_le (ro_one u (k := r * 3 + k) (by omega))
    rw [f0, f11 _ (by omega)]
    exact (ml_small (a := roV S (r * 3 + k)) (b := secV (I 1)) (X := 1073741829) (Y := 107374183) b (by omega) (by decide) (by decide) (by decide)).2.1
  · unfold joB1
    rw [f0]
    have b := ab_le (jo_bd hq (r * 3 + k))
    exact (ml_small (a := mulV (secV (I 1)) 536870912 30) (b := joB S (r * 3 + k)) (X := 53687093) (Y := 1073741840) (by have := D.2.2.2.2.2.2.1; omega) b (by decide) (by decide) (by decide)).2.1
end Go.Proofs.Ytanmddenleffaaa
namespace Go.Proofs.Ytanmddenleffaaa
theorem jm_one {d : Int} (hd : ab d ≤ 16777216) : mulV 1073741824 d 30 = d ∧ mulH 1073741824 d 30 = false := by
  have b := ab_le hd
  have m := mulV_of (a := 1073741824) (b := d) (by unfold SB; omega) (by unfold SB; omega) (by rw [cl_rshmul]; unfold SB; omega)
  rw [cl_rshmul] at m
  exact m
theorem jm_nul {d : Int} (hd : ab d ≤ 16777216) : mulV 0 d 30 = 0 ∧ mulH 0 d 30 = false := by
  have b := ab_le hd
  exact ⟨ml_zero d, mlH_zero (by unfold SB; omega)⟩
/-- A sum of three products, one of which has changed by R e. -/
theorem jm_three {A B B' : Nat → Int} {m : Nat} {e : Int} (hm : m < 3) (hB : ∀ i, i < 3 → B' i = if i = m then B i + e else B i) : sg (fun i => A i * B' i) 3 - sg (fun i => A i * B i) 3 = A m * e := by
  have h0 := hB 0 (by decide)
  have h1 := hB 1 (by decide)
  have h2 := hB 2 (by decide)
  simp only [sg]
  rw [h0, h1, h2]
  obtain rfl | rfl | rfl : m = 0 ∨ m = 1 ∨ m = 2 := by omega
  · rw [if_pos rfl, if_neg (by decide), if_neg (by decide)]; grind
  · rw [if_neg (by decide), if_pos rfl, if_neg (by decide)]; grind
  · rw [if_neg (by decide), if_neg (by decide), if_pos rfl]; grind
set_option maxHeartbeats 4000000 in
/-- What a change of the accelerometer's bias changes of the velocity: as the matrix says; and within this. -/
theorem jm_acc {S I T : Nat → Int} {m j : Nat} {d : Int} (H : JmH S I) (HT : JmH T I) (h13 : ∀ k, k < 3 → S (13 + k) = 0) (hm : m < 3) (hj : j < 3) (hd : ab d ≤ 16777216) (hT : ∀ i, T i = if i = 13 + m then S (13 + m) + d else S i) :
    mulH (-(mulV (roV S (3 * j + m)) (secV (I 1)) 30)) d 30 = false ∧ ab (mulV (-(mulV (roV S (3 * j + m)) (secV (I 1)) 30)) d 30) ≤ 2000000 ∧
    ab (apV (roV T) (jmD T I (secV (I 1))) j - apV (roV S) (jmD S I (secV (I 1))) j - mulV (-(mulV (roV S (3 * j + m)) (secV (I 1)) 30)) d 30) ≤ 4 := by
  have u := (unitB_iff S).1 (good_parts H.g).2
  have D := jm_dt H.us
  have db := ab_le hd
  obtain ⟨dt, hdt⟩ : ∃ x, secV (I 1) = x := ⟨_, rfl⟩
  rw [hdt] at D ⊢
  have hq : ∀ i, i < 4 → T i = S i := fun i hi => by rw [hT i, if_neg (by omega)]
  have ro := (ur_ro hq).1
  -- the products
  have p := ml_small (a := d) (b := dt) (X := 16777216) (Y := 107374183) db (by omega) (by decide) (by decide) (by decide)
  have pe := rsh_err (d * dt)
  rw [← p.1] at pe
  have R := ro_one u (k := 3 * j + m) (by omega)
  have Rb := ab_le R
  have q := ml_small (a := roV S (3 * j + m)) (b := dt) (X := 1073741829) (Y := 107374183) Rb (by omega) (by decide) (by decide) (by decide)
  have qe := rsh_err (roV S (3 * j + m) * dt)
  rw [← q.1] at qe
  obtain ⟨P, hP⟩ : ∃ x, mulV d dt 30 = x := ⟨_, rfl⟩
  obtain ⟨Q, hQ⟩ : ∃ x, mulV (roV S (3 * j + m)) dt 30 = x := ⟨_, rfl⟩
  rw [hP] at p pe
  rw [hQ] at q qe
  rw [hQ]
  have Qb : -107374200 ≤ -Q ∧ -Q ≤ 107374200 := by omega
  have M := ml_small (a := -Q) (b := d) (X := 107374200) (Y := 16777216) Qb db (by decide) (by decide) (by decide)
  have me := rsh_err (-Q * d)
  rw [← M.1] at me
  refine ⟨M.2.1, le_ab (by omega), ?_⟩
  have rb : ∀ k, k < 9 → ab (roV S k) ≤ 4400000000 := fun k hk => Int.le_trans (ro_one u hk) (by decide)
  have bS : ∀ k, k < 3 → ab (jmD S I dt k) ≤ 135895451 := fun k hk => by
    unfold jmD; rw [h13 k hk, ml_zero]; have := ab_le (H.d k hk); exact le_ab (by omega)
  have bT : ∀ k, k < 3 → jmD T I dt k = if k = m then jmD S I dt k + -P else jmD S I dt k := fun k hk => by
    unfold jmD
    rw [hT (13 + k), h13 k hk]
    by_cases h : k = m
    · rw [if_pos h, if_pos (by omega), h13 m hm, ml_zero, Int.zero_add, hP]; omega
    · rw [if_neg h, if_neg (by omega)]
  have bT2 : ∀ k, k < 3 → ab (jmD T I dt k) ≤ 135895451 := fun k hk => by
    rw [bT k hk]
    have := ab_le (H.d k hk)
    have e : jmD S I dt k = I (5 + k) := by unfold jmD; rw [h13 k hk, ml_zero, Int.sub_zero]
    rw [e]
    split <;> exact le_ab (by omega)
  have eS := (dot_err (A := fun i => roV S (3 * j + i)) (B := jmD S I dt) (n := 3) (X := 4400000000) (Y := 135895451) (Z := 3300000001) (fun i hi => rb _ (by omega)) bS (by decide) (by decide) (by decide) (by decide)).1
  have eT := (dot_err (A := fun i => roV S (3 * j + i)) (B := jmD T I dt) (n := 3) (X := 4400000000) (Y := 135895451) (Z := 3300000001) (fun i hi => rb _ (by omega)) bT2 (by decide) (by decide) (by decide) (by decide)).1
  have t3 := jm_three (A := fun i => roV S (3 * j + i)) hm bT
  have aT : apV (roV T) (jmD T I dt) j = dotV 30 (fun i => roV S (3 * j + i)) (jmD T I dt) 3 := by
    unfold apV
    exact (ur_dot fun i hi => ⟨ro _, rfl⟩).1
  have aS : apV (roV S) (jmD S I dt) j = dotV 30 (fun i => roV S (3 * j + i)) (jmD S I dt) 3 := rfl
  rw [aT, aS]
  obtain ⟨x, hx⟩ : ∃ x, dotV 30 (fun i => roV S (3 * j + i)) (jmD T I dt) 3 = x := ⟨_, rfl⟩
  obtain ⟨y, hy⟩ : ∃ x, dotV 30 (fun i => roV S (3 * j + i)) (jmD S I dt) 3 = x := ⟨_, rfl⟩
  obtain ⟨z, hz⟩ : ∃ x, mulV (-Q) d 30 = x := ⟨_, rfl⟩
  rw [hx] at eT ⊢
  rw [hy] at eS ⊢
  rw [hz] at me ⊢
  obtain ⟨r, hr⟩ : ∃ x, roV S (3 * j + m) = x := ⟨_, rfl⟩
  rw [hr] at t3 qe Rb R
  generalize sg (fun k => roV S (3 * j + k) * jmD T I dt k) 3 = gT at *
  generalize sg (fun k => roV S (3 * j + k) * jmD S I dt k) 3 = gS at *
  have x1 := ab_le (show ab (1073741824 * x - gT) ≤ 536870912 by omega)
  have y1 := ab_le (show ab (1073741824 * y - gS) ≤ 536870912 by omega)
  have e1 := ab_le (ab_mul_le R (show ab (1073741824 * P - d * dt) ≤ 536870912 from le_ab (by omega)))
  have e2 := ab_le (ab_mul_le hd (show ab (1073741824 * Q - r * dt) ≤ 536870912 from le_ab (by omega)))
  have e : 1152921504606846976 * (x - y - z) = 1073741824 * (1073741824 * x - gT) - 1073741824 * (1073741824 * y - gS) - 1073741824 * (1073741824 * z - -Q * d) - r * (1073741824 * P - d * dt) + d * (1073741824 * Q - r * dt) := by
    have : gT = gS + r * -P := by omega
    rw [this]; grind
  exact le_ab (by omega)
set_option maxHeartbeats 8000000 in
/-- The law, in numbers. -/
theorem jm_law {S I T : Nat → Int} {c : Nat} {d : Int} (H : JmH S I) (HT : JmH T I) (h13 : ∀ k, k < 3 → S (13 + k) = 0) (hc : 4 ≤ c ∧ c < 24 ∧ (c < 10 ∨ 13 ≤ c)) (hd : ab d ≤ 16777216) (hT : ∀ i, T i = if i = c then S c + d else S i) {k : Nat} (hk : k < 24) :
    mulH (jofF S I (k * 24 + c)) d 30 = false ∧ ab (mulV (jofF S I (k * 24 + c)) d 30) ≤ 17000000 ∧
    ab (stepN T I k - stepN S I k - mulV (jofF S I (k * 24 + c)) d 30) ≤ (if 13 ≤ c ∧ c < 16 ∧ 7 ≤ k ∧ k < 10 then 262144 else 4) := by
  have a := jm_step H
  have b := jm_step HT
  have D := jm_dt H.us
  have db := ab_le hd
  have o1 := jm_one hd
  have o0 := jm_nul hd
  have eF := jm_f (S := S) (I := I) a.2.1 hk hc.2.1 ⟨hc.1, hc.2.2⟩
  have zz : ab 0 ≤ 4 := by decide
  have r4 : ∀ {x : Int}, ab x ≤ 4 → ab x ≤ (if 13 ≤ c ∧ c < 16 ∧ 7 ≤ k ∧ k < 10 then 262144 else 4) := fun h => by split <;> omega
  -- the velocities' parts that no bias changes
  have noacc : (∀ i, i < 3 → T (13 + i) = S (13 + i)) → ∀ j, apV (roV T) (jmD T I (secV (I 1))) j = apV (roV S) (jmD S I (secV (I 1))) j := fun h j => by
    have ro := (ur_ro (A := T) (B := S) fun i hi => by rw [hT i, if_neg (by omega)]).1
    unfold apV
    exact (ur_dot fun i hi => ⟨ro _, by unfold jmD; rw [h i hi]⟩).1
  by_cases k4 : k < 4
  · rw [eF, if_neg (by omega), if_neg (by omega), if_neg (by omega), o0.1, o0.2, a.2.2.2.2.1 k k4, b.2.2.2.2.1 k k4, (ur_uni (A := T) (B := S) fun i hi => by rw [hT i, if_neg (by omega)]).1 k k4]
    exact ⟨rfl, by decide, r4 (by rw [Int.sub_self]; exact zz)⟩
  · by_cases k10 : 10 ≤ k
    · rw [a.2.2.2.2.2.2.2 k k10, b.2.2.2.2.2.2.2 k k10, hT k]
      by_cases h : k = c
      · rw [eF, if_pos h, o1.1, o1.2, if_pos h, show S c = S k from by rw [h]]
        exact ⟨rfl, by omega, r4 (le_ab (by omega))⟩
      · rw [eF, if_neg h, if_neg (by omega), if_neg (by omega), o0.1, o0.2, if_neg h]
        exact ⟨rfl, by decide, r4 (le_ab (by omega))⟩
    · by_cases k7 : k < 7
      · obtain ⟨j, rfl⟩ : ∃ j, k = 4 + j := ⟨k - 4, by omega⟩
        have hj : j < 3 := by omega
        have sa := (a.2.2.2.2.2.1 j hj).2
        have sb := (b.2.2.2.2.2.1 j hj).2
        rw [sa, sb, hT (4 + j)]
        by_cases hacc : 13 ≤ c ∧ c < 16
        · obtain ⟨m, rfl⟩ : ∃ m, c = 13 + m := ⟨c - 13, by omega⟩
          have A := jm_acc H HT h13 (show m < 3 by omega) hj hd hT
          rw [eF, if_neg (by omega), if_pos (by omega), show 3 * (4 + j - 4) + (13 + m - 13) = 3 * j + m by omega, if_neg (by omega)]
          refine ⟨A.1, by omega, r4 ?_⟩
          refine Int.le_trans (Int.le_of_eq ?_) A.2.2
          congr 1
          omega
        · have na := noacc (fun i hi => by rw [hT (13 + i), if_neg (by omega)]) j
          rw [na]
          by_cases h : 4 + j = c
          · rw [eF, if_pos h, o1.1, o1.2, if_pos h, show S c = S (4 + j) from by rw [h]]
            exact ⟨rfl, by omega, r4 (le_ab (by omega))⟩
          · rw [eF, if_neg h, if_neg (by omega), if_neg (by omega), o0.1, o0.2, if_neg h]
            exact ⟨rfl, by decide, r4 (le_ab (by omega))⟩
      · obtain ⟨j, rfl⟩ : ∃ j, k = 7 + j := ⟨k - 7, by omega⟩
        have hj : j < 3 := by omega
        have xa := a.2.2.2.2.2.2.1 j hj
        have xb := b.2.2.2.2.2.2.1 j hj
        have sa := (a.2.2.2.2.2.1 j hj).2
        have sb := (b.2.2.2.2.2.1 j hj).2
        have ba := ab_le (a.2.2.2.2.2.1 j hj).1
        have bb := ab_le (b.2.2.2.2.2.1 j hj).1
        have gd := ab_le D.2.2.2.2.1
        have v1 := ab_le (H.v j hj)
        have v2 := ab_le (HT.v j hj)
        rw [xa, xb, hT (7 + j)]
        obtain ⟨hf, hhf⟩ : ∃ x, mulV (secV (I 1)) 536870912 30 = x := ⟨_, rfl⟩
        rw [hhf] at D ⊢
        have hfb := D.2.2.2.2.2.2.1
        obtain ⟨X, hX⟩ : ∃ x, S (4 + j) + stepN S I (4 + j) = x := ⟨_, rfl⟩
        obtain ⟨Y, hY⟩ : ∃ x, T (4 + j) + stepN T I (4 + j) = x := ⟨_, rfl⟩
        rw [sa] at hX
        rw [sb] at hY
        have Xb : -9000000000 ≤ X ∧ X ≤ 9000000000 := by rw [← hX]; split <;> omega
        have Yb : -9000000000 ≤ Y ∧ Y ≤ 9000000000 := by rw [← hY]; split <;> omega
        rw [sa, sb, hX, hY]
        have mx := ml_small (a := X) (b := hf) (X := 9000000000) (Y := 53687093) Xb (by omega) (by decide) (by decide) (by decide)
        have my := ml_small (a := Y) (b := hf) (X := 9000000000) (Y := 53687093) Yb (by omega) (by decide) (by decide) (by decide)
        have ex := rsh_err (X * hf)
        have ey := rsh_err (Y * hf)
        rw [← mx.1] at ex
        rw [← my.1] at ey
        obtain ⟨p, hp⟩ : ∃ x, mulV X hf 30 = x := ⟨_, rfl⟩
        obtain ⟨q, hq⟩ : ∃ x, mulV Y hf 30 = x := ⟨_, rfl⟩
        rw [hp] at ex ⊢
        rw [hq] at ey ⊢
        by_cases hacc : 13 ≤ c ∧ c < 16
        · obtain ⟨m, rfl⟩ : ∃ m, c = 13 + m := ⟨c - 13, by omega⟩
          have A := jm_acc H HT h13 (show m < 3 by omega) hj hd hT
          rw [eF, if_neg (by omega), if_neg (by omega), if_neg (by omega), o0.1, o0.2, if_neg (by omega), if_pos (by omega)]
          refine ⟨rfl, by decide, ?_⟩
          have m1 := ab_le A.2.1
          have m2 := ab_le A.2.2
          have dXY : -2000004 ≤ Y - X ∧ Y - X ≤ 2000004 := by
            rw [← hX, ← hY, hT (4 + j), if_neg (by omega)]; omega
          have pr := mul_bd (x := Y - X) (y := hf) (X := 2000004) (Y := 53687093) dXY (by omega)
          have e : (Y - X) * hf = Y * hf - X * hf := Int.sub_mul _ _ _
          rw [e] at pr
          exact le_ab (by omega)
        · have na := noacc (fun i hi => by rw [hT (13 + i), if_neg (by omega)]) j
          rw [na, hT (4 + j)] at hY
          by_cases h : c = 4 + j
          · rw [eF, if_neg (by omega), if_neg (by omega), if_pos (by omega), if_neg (by omega)]
            rw [if_pos h.symm, h] at hY
            have dt := ml_small (a := secV (I 1)) (b := d) (X := 107374183) (Y := 16777216) (by omega) db (by decide) (by decide) (by decide)
            have ed := rsh_err (secV (I 1) * d)
            rw [← dt.1] at ed
            refine ⟨dt.2.1, le_ab (by omega), r4 ?_⟩
            have eY : Y = X + 2 * d := by rw [← hX, ← hY]; omega
            have hh := ab_le D.2.2.2.2.2.2.2
            have pr := ab_le (ab_mul_le hd (show ab (2 * hf - secV (I 1)) ≤ 1 from le_ab (by omega)))
            have e : d * (2 * hf - secV (I 1)) = Y * hf - X * hf - secV (I 1) * d := by rw [eY]; grind
            rw [e] at pr
            exact le_ab (by omega)
          · rw [if_neg (by omega)] at hY
            have eY : Y = X := by rw [← hX, ← hY]
            have epq : q = p := by rw [← hq, ← hp, eY]
            rw [epq]
            by_cases h7 : 7 + j = c
            · rw [eF, if_pos h7, o1.1, o1.2, if_pos h7, show S c = S (7 + j) from by rw [h7]]
              exact ⟨rfl, by omega, r4 (le_ab (by omega))⟩
            · rw [eF, if_neg h7, if_neg (by omega), if_neg (by omega), o0.1, o0.2, if_neg h7]
              exact ⟨rfl, by decide, r4 (le_ab (by omega))⟩
end Go.Proofs.Ytanmddenleffaaa
namespace Go.Proofs.Ytanmddenleffaaa
theorem ml_big {a b X Y : Int} (ha : -X ≤ a ∧ a ≤ X) (hb : -Y ≤ b ∧ b ≤ Y) (hX : X ≤ 1073741824000) (hY : Y ≤ 1073741824000) (hXY : X * Y ≤ 1000000000000000000000000000) :
    mulV a b 30 = rsh (a * b) 30 ∧ mulH a b 30 = false ∧ -(X * Y) - 1073741824 ≤ 1073741824 * mulV a b 30 ∧ 1073741824 * mulV a b 30 ≤ X * Y + 1073741824 := by
  have m := mul_bd ha hb
  have r := rsh_err (a * b)
  have q := mulV_of (a := a) (b := b) (by unfold SB; omega) (by unfold SB; omega) (by unfold SB; omega)
  refine ⟨q.1, q.2, ?_⟩
  rw [q.1]
  omega
/-- Behind k steps. -/
structure RsI (hf : Int) (v : Nat → Int) (k : Nat) (S : Nat → Int) : Prop where
  z1 : S 1 = 0
  z2 : S 2 = 0
  g : goodB S = true
  hi : ∀ i, 10 ≤ i → S i = 0
  v0 : S 4 = v 0
  v1 : S 5 = v 1
  v2 : -(8 * (k : Int)) ≤ S 6 - v 2 ∧ S 6 - v 2 ≤ 8 * (k : Int)
  x : ∀ j, j < 3 → -((k : Int) * 50000000000) ≤ 1073741824 * S (7 + j) - (k : Int) * (2 * v j * hf) ∧ 1073741824 * S (7 + j) - (k : Int) * (2 * v j * hf) ≤ (k : Int) * 50000000000
end Go.Proofs.Ytanmddenleffaaa
namespace Go.Proofs.Ytanmddenleffaaa
theorem ser_step {z s l B C : Int} (hz : -2684354560 ≤ z ∧ z ≤ 2684354560) (hs : -B ≤ s ∧ s ≤ B) (hl : -1073741824 ≤ l ∧ l ≤ 1073741824) (hB : B ≤ 1000000000000) (hC : 1073741824 * 1073741824 + 2684354560 * B + 1073741824 ≤ 1073741824 * C) (hC2 : C ≤ 1000000000000000) :
    mulH z s 30 = false ∧ addH l (mulV z s 30) = false ∧ (-C ≤ addV l (mulV z s 30) ∧ addV l (mulV z s 30) ≤ C) := by
  have m := ml_big (a := z) (b := s) (X := 2684354560) (Y := B) hz hs (by decide) (by omega) (by omega)
  obtain ⟨p, hp⟩ : ∃ p, mulV z s 30 = p := ⟨_, rfl⟩
  rw [hp] at m ⊢
  have pb : -(C - 1073741824) ≤ p ∧ p ≤ C - 1073741824 := by omega
  refine ⟨m.2.1, ?_⟩
  unfold addH addV
  rw [satV_id (a := l) (by omega) (by omega), satV_id (a := p) (by omega) (by omega), satH_no (a := l) (by omega) (by omega), satH_no (a := p) (by omega) (by omega), satH_no (a := l + p) (by omega) (by omega), satV_id (a := l + p) (by omega) (by omega)]
  exact ⟨rfl, by omega, by omega⟩
theorem ser_sinL {z : Int} (hz : -2684354560 ≤ z ∧ z ≤ 2684354560) : serH z sinL 5 = false ∧ (-174046838969 ≤ serV z sinL 5 ∧ serV z sinL 5 ≤ 174046838969) := by
  have b0 : -1073741824 ≤ serV z sinL 0 ∧ serV z sinL 0 ≤ 1073741824 := by show -1073741824 ≤ sinL 0 ∧ sinL 0 ≤ 1073741824; decide
  have s0 := ser_step (z := z) (s := serV z sinL 0) (l := sinL 1) (B := 1073741824) (C := 3758096387) hz b0 (by decide) (by decide) (by decide) (by decide)
  have b1 : -3758096387 ≤ serV z sinL 1 ∧ serV z sinL 1 ≤ 3758096387 := s0.2.2
  have s1 := ser_step (z := z) (s := serV z sinL 1) (l := sinL 2) (B := 3758096387) (C := 10468982794) hz b1 (by decide) (by decide) (by decide) (by decide)
  have b2 : -10468982794 ≤ serV z sinL 2 ∧ serV z sinL 2 ≤ 10468982794 := s1.2.2
  have s2 := ser_step (z := z) (s := serV z sinL 2) (l := sinL 3) (B := 10468982794) (C := 27246198812) hz b2 (by decide) (by decide) (by decide) (by decide)
  have b3 : -27246198812 ≤ serV z sinL 3 ∧ serV z sinL 3 ≤ 27246198812 := s2.2.2
  have s3 := ser_step (z := z) (s := serV z sinL 3) (l := sinL 4) (B := 27246198812) (C := 69189238857) hz b3 (by decide) (by decide) (by decide) (by decide)
  have b4 : -69189238857 ≤ serV z sinL 4 ∧ serV z sinL 4 ≤ 69189238857 := s3.2.2
  have s4 := ser_step (z := z) (s := serV z sinL 4) (l := sinL 5) (B := 69189238857) (C := 174046838969) hz b4 (by decide) (by decide) (by decide) (by decide)
  have b5 : -174046838969 ≤ serV z sinL 5 ∧ serV z sinL 5 ≤ 174046838969 := s4.2.2
  refine ⟨?_, b5⟩
  simp only [serH]
  rw [s0.1, s0.2.1, s1.1, s1.2.1, s2.1, s2.2.1, s3.1, s3.2.1, s4.1, s4.2.1]
  rfl
theorem ser_cosL {z : Int} (hz : -2684354560 ≤ z ∧ z ≤ 2684354560) : serH z cosL 6 = false ∧ (-436190839249 ≤ serV z cosL 6 ∧ serV z cosL 6 ≤ 436190839249) := by
  have b0 : -1073741824 ≤ serV z cosL 0 ∧ serV z cosL 0 ≤ 1073741824 := by show -1073741824 ≤ cosL 0 ∧ cosL 0 ≤ 1073741824; decide
  have s0 := ser_step (z := z) (s := serV z cosL 0) (l := cosL 1) (B := 1073741824) (C := 3758096387) hz b0 (by decide) (by decide) (by decide) (by decide)
  have b1 : -3758096387 ≤ serV z cosL 1 ∧ serV z cosL 1 ≤ 3758096387 := s0.2.2
  have s1 := ser_step (z := z) (s := serV z cosL 1) (l := cosL 2) (B := 3758096387) (C := 10468982794) hz b1 (by decide) (by decide) (by decide) (by decide)
  have b2 : -10468982794 ≤ serV z cosL 2 ∧ serV z cosL 2 ≤ 10468982794 := s1.2.2
  have s2 := ser_step (z := z) (s := serV z cosL 2) (l := cosL 3) (B := 10468982794) (C := 27246198812) hz b2 (by decide) (by decide) (by decide) (by decide)
  have b3 : -27246198812 ≤ serV z cosL 3 ∧ serV z cosL 3 ≤ 27246198812 := s2.2.2
  have s3 := ser_step (z := z) (s := serV z cosL 3) (l := cosL 4) (B := 27246198812) (C := 69189238857) hz b3 (by decide) (by decide) (by decide) (by decide)
  have b4 : -69189238857 ≤ serV z cosL 4 ∧ serV z cosL 4 ≤ 69189238857 := s3.2.2
  have s4 := ser_step (z := z) (s := serV z cosL 4) (l := cosL 5) (B := 69189238857) (C := 174046838969) hz b4 (by decide) (by decide) (by decide) (by decide)
  have b5 : -174046838969 ≤ serV z cosL 5 ∧ serV z cosL 5 ≤ 174046838969 := s4.2.2
  have s5 := ser_step (z := z) (s := serV z cosL 5) (l := cosL 6) (B := 174046838969) (C := 436190839249) hz b5 (by decide) (by decide) (by decide) (by decide)
  have b6 : -436190839249 ≤ serV z cosL 6 ∧ serV z cosL 6 ≤ 436190839249 := s5.2.2
  refine ⟨?_, b6⟩
  simp only [serH]
  rw [s0.1, s0.2.1, s1.1, s1.2.1, s2.1, s2.2.1, s3.1, s3.2.1, s4.1, s4.2.1, s5.1, s5.2.1]
  rfl
theorem qrt_calm {w : Int} (h : -1686629713 ≤ w ∧ w ≤ 1686629713) : qrtH w = false := by
  have a : 0 ≤ absV w ∧ absV w ≤ 1686629713 := by unfold absV; rw [if_neg (by omega)]; split <;> omega
  have sq : ∀ x : Int, -1686629713 ≤ x ∧ x ≤ 1686629713 → mulH x x 30 = false ∧ -2684354560 ≤ mulV x x 30 ∧ mulV x x 30 ≤ 2684354560 := fun x hx => by
    have m := ml_big (a := x) (b := x) (X := 1686629713) (Y := 1686629713) hx hx (by decide) (by decide) (by decide)
    exact ⟨m.2.1, by omega⟩
  unfold qrtH
  split
  · have m := sq w h
    have s := ser_sinL m.2
    have p := ml_big (a := w) (b := serV (mulV w w 30) sinL 5) (X := 1686629713) (Y := 174046838969) h s.2 (by decide) (by decide) (by decide)
    unfold sn1H
    rw [m.1, s.1, p.2.1]; rfl
  · have m := sq (1686629713 - absV w) (by omega)
    have s := ser_cosL m.2
    unfold cs1H
    rw [m.1, s.1]; rfl
theorem sin_calm {a : Int} (h : -1000000000000 ≤ a ∧ a ≤ 1000000000000) : sinH a = false ∧ -1073741824 ≤ sinV a ∧ sinV a ≤ 1073741824 := by
  have e : satV a = a := satV_id (by omega) (by omega)
  have w := wrpV_bd a
  have f := fldV_bd w.1 w.2
  unfold sinH sinV oneC
  rw [e, qrt_calm f, satH_no (by omega) (by omega)]
  exact ⟨rfl, by omega, by omega⟩
theorem cos_calm {a : Int} : cosH a = false ∧ -1073741824 ≤ cosV a ∧ cosV a ≤ 1073741824 := by
  have w := wrpV_bd a
  unfold cosH cosV
  exact sin_calm (by omega)
theorem fy_calm (a : Int) : fyH a = false ∧ fyV a 1 = 0 ∧ fyV a 2 = 0 ∧ UnitQ (fyV a) := by
  have w := wrpV_bd a
  have m := ml_big (a := wrpV a) (b := 536870912) (X := 3373259426) (Y := 536870912) (by omega) (by decide) (by decide) (by decide) (by decide)
  have fm : -1000000000000 ≤ fyM a ∧ fyM a ≤ 1000000000000 := by unfold fyM; omega
  have s := sin_calm fm
  have c := cos_calm (a := fyM a)
  refine ⟨?_, rs_uni0 rfl (by decide), rs_uni0 rfl (by decide), unit_good _⟩
  unfold fyH
  rw [m.2.1, c.1, s.1, unit_calm _ fun i hi => by
    have := q4_bd (B := 1073741824) c.2 (show -1073741824 ≤ (0 : Int) ∧ (0 : Int) ≤ 1073741824 by decide) (show -1073741824 ≤ (0 : Int) ∧ (0 : Int) ≤ 1073741824 by decide) s.2 i hi
    omega]
  rfl
end Go.Proofs.Ytanmddenleffaaa
namespace Go.Proofs.Ytanmddenleffaaa
open Go.RowKit
set_option maxRecDepth 100000
/-- The blocks of rot.FromYaw. -/
structure FyR (c : Addr) (h : Bool) (w wr : World) : Prop where
  upd : Upd c h w wr
  r : Blk wr w.heap.size 40 4 (fun _ => 0)
  cell : wr.cell? c = some (.bool h)
  free : wr.frozen? c = false
  cb : c.block < w.heap.size
theorem FyR.upd' {c : Addr} {h h' : Bool} {w wr w' : World} (s : FyR c h w wr) (u : Upd c h' wr w') : FyR c h' w w' := by
  have hcb := s.cb
  exact ⟨s.upd.trans u, s.r.upd u (by omega), u.cellc s.cell, (u.frozen (World.block_lt_of_cell? _ _ s.cell)).trans s.free, s.cb⟩
theorem fy_start (c : Addr) (h : Bool) (w : World) (hc : w.cell? c = some (.bool h)) (hf : w.frozen? c = false) :
    FyR c h w (w.alloc (.cells #[.int .i64 0, .int .i64 0, .int .i64 0, .int .i64 0] 40)) := by
  have hcb := World.block_lt_of_cell? w c hc
  have bl : Below w.heap.size w (w.alloc (.cells #[.int .i64 0, .int .i64 0, .int .i64 0, .int .i64 0] 40)) := by (repeat (first | with_reducible exact Below.refl _ _ | with_reducible apply Below.drew | (with_reducible refine below_drewN ?_ _) | (with_reducible refine Below.alloc ?_ (by (try simp) <;> omega) _) | (with_reducible refine Below.setCell ?_ (by (try simp) <;> omega) _)))
  refine ⟨Upd.then (Upd.refl hc) bl, ?_, (bl.cell hcb).trans hc, (bl.frozen hcb).trans hf, hcb⟩
  rw [zq4]; exact Blk.new w _ 4 _
set_option maxHeartbeats 8000000 in
theorem fromyaw_any (c : Addr) (h : Bool) (a : Int) (w : World) (hc : w.cell? c = some (.bool h)) (hf : w.frozen? c = false) :
    Calls Try.prog 18 #[.pointer (some c), .int .i64 a] w fun e w' => e = .returned (.agg (arrv 4 (fyV a))) ∧ Upd c (h || fyH a) w w' := by
  have S0 := Lib.hid (fy_start c h w hc hf)
  have WC := fun (x : World) => wrap_any a x
  have MC := fun (x : World) (k : x.cell? c = some (.bool h)) (f : x.frozen? c = false) => fmul_any c h (wrpV a) 536870912 30 x k f
  have HV : fyV a = uniV (q4 (cosV (fyM a)) 0 0 (sinV (fyM a))) ∧ (h || fyH a) = (h || mulH (wrpV a) 536870912 30 || cosH (fyM a) || sinH (fyM a) || uniH (q4 (cosV (fyM a)) 0 0 (sinV (fyM a)))) := ⟨rfl, by unfold fyH; simp [Bool.or_assoc]⟩
  rw [show mulV (wrpV a) 536870912 30 = fyM a from rfl] at MC
  obtain ⟨W, hW⟩ : ∃ x, wrpV a = x := ⟨_, rfl⟩
  obtain ⟨M, hM⟩ : ∃ x, fyM a = x := ⟨_, rfl⟩
  rw [hW] at WC MC HV
  rw [hM] at MC HV
  obtain ⟨H1, hH1⟩ : ∃ x, (h || mulH W 536870912 30) = x := ⟨_, rfl⟩
  rw [hH1] at MC HV
  have CC := fun (x : World) (k : x.cell? c = some (.bool H1)) (f : x.frozen? c = false) => cos_any c H1 M x k f
  obtain ⟨C, hC⟩ : ∃ x, cosV M = x := ⟨_, rfl⟩
  obtain ⟨H2, hH2⟩ : ∃ x, (H1 || cosH M) = x := ⟨_, rfl⟩
  rw [hC, hH2] at CC
  rw [hC, hH2] at HV
  have NN := fun (x : World) (k : x.cell? c = some (.bool H2)) (f : x.frozen? c = false) => sin_any c H2 M x k f
  obtain ⟨S, hS⟩ : ∃ x, sinV M = x := ⟨_, rfl⟩
  obtain ⟨H3, hH3⟩ : ∃ x, (H2 || sinH M) = x := ⟨_, rfl⟩
  rw [hS, hH3] at NN
  rw [hS, hH3] at HV
  have UC := fun (x : World) (k : x.cell? c = some (.bool H3)) (f : x.frozen? c = false) => qunit_any c H3 (q4 C 0 0 S) x k f
  obtain ⟨E, hE⟩ : ∃ x, uniV (q4 C 0 0 S) = x := ⟨_, rfl⟩
  rw [hE] at UC HV
  have WC := Lib.hid WC
  have MC := Lib.hid MC
  have CC := Lib.hid CC
  have NN := Lib.hid NN
  have UC := Lib.hid UC
  have HV := Lib.hid HV
  clear hW hM hH1 hC hH2 hS hH3 hE hc hf
  go_enter Try.func18, Try.ntmps18
  go_upto_region 1 with fail
  generalize w.alloc (.cells #[.int .i64 0, .int .i64 0, .int .i64 0, .int .i64 0] 40) = W0 at *
  go_upto_region 2 with (first | (go_at_call 41; (refine (WC.out _).mono ?_); rintro e w1 ⟨rfl, rfl⟩) | (go_at_call 20; (refine (MC.out _ S0.out.cell S0.out.free).mono ?_); rintro e w2 ⟨rfl, hu⟩; have S1 := Lib.hid (S0.out.upd' hu); clear hu S0))
  refine wp_region_lit ?_
  refine wpList_val (v := ?_) rfl ?_ ?_
  rotate_left
  · (go_simp; (try (first | with_reducible rfl | (constructor <;> with_reducible rfl))))
  (try simp only [Act.put, nA, nB, nC])
  refine wpList_val (v := ?_) rfl ?_ ?_
  rotate_left
  · (go_simp; (try (first | with_reducible rfl | (constructor <;> with_reducible rfl))))
  (try simp only [Act.put, nA, nB, nC])
  refine wpList_val (v := ?_) rfl ?_ ?_
  rotate_left
  · (go_simp; (try (first | with_reducible rfl | (constructor <;> with_reducible rfl))))
  (try simp only [Act.put, nA, nB, nC])
  refine wpList_step (fun K hK => ?_)
  go_simp
  (refine (CC.out _ S1.out.cell S1.out.free).mono ?_); rintro e w3 ⟨rfl, hu⟩; have S2 := Lib.hid (S1.out.upd' hu); clear hu S1
  (try dsimp only)
  (try simp only [Act.put, nA, nB, nC])
  refine hK _ _ ?_
  clear hK K
  refine wpList_val (v := ?_) rfl ?_ ?_
  rotate_left
  · (go_simp; (try (first | with_reducible rfl | (constructor <;> with_reducible rfl))))
  (try simp only [Act.put, nA, nB, nC])
  refine wpList_val (v := ?_) rfl ?_ ?_
  rotate_left
  · (go_simp; (try (first | with_reducible rfl | (constructor <;> with_reducible rfl))))
  (try simp only [Act.put, nA, nB, nC])
  refine wpList_step (fun K hK => ?_)
  go_simp
  (refine (NN.out _ S2.out.cell S2.out.free).mono ?_); rintro e w4 ⟨rfl, hu⟩; have S3 := Lib.hid (S2.out.upd' hu); clear hu S2
  (try dsimp only)
  (try simp only [Act.put, nA, nB, nC])
  refine hK _ _ ?_
  clear hK K
  refine wpList_val (v := ?_) rfl ?_ ?_
  rotate_left
  · (refine Eq.trans (run_build_q4' (.tmp 13) (.tmp 16) (by rfl) (by rfl) (by rfl)) ?_; with_reducible rfl)
  (try simp only [Act.put, nA, nB, nC])
  refine wpList_step (fun K hK => ?_)
  go_simp
  (refine (UC.out _ S3.out.cell S3.out.free).mono ?_); rintro e w5 ⟨rfl, hu⟩; have S4 := Lib.hid (S3.out.upd' hu); clear hu S3
  (try dsimp only)
  (try simp only [Act.put, nA, nB, nC])
  refine hK _ _ ?_
  clear hK K
  refine wpList_done (w' := ?_) rfl ?_ ?_
  rotate_left
  · (refine Eq.trans (run_store_row 40 (.tmp 4) (.tmp 18) (by rfl) w.heap.size (by rfl) (by rfl) S4.out.r (iqt.trans rfl)) ?_; with_reducible rfl)
  (try simp only [Act.put, nA, nB, nC])
  refine wpList_nil ?_
  have r1 := S4.out.r.setRow E
  have B1 := S4.out.upd.then' (below_row (Below.refl _ _) (Nat.le_refl w.heap.size) (arrv 4 E))
  rw [← HV.out.2] at B1
  generalize w5.setRow w.heap.size (arrv 4 E) = W6 at *
  go_wp2_with fail
  refine bodyPost_ret (results_cell_row Try.results18 _ _ w.heap.size 40 (arrv 4 E) (0, 0) _ rfl r1 Try.underlying40 rfl (iqt.trans (by rw [arrv_size]))) rfl ⟨by rw [HV.out.1], B1⟩
end Go.Proofs.Ytanmddenleffaaa
namespace Go.Proofs.Ytanmddenleffaaa
open Go.RowKit
set_option maxRecDepth 100000
theorem ts_sl3 {c : Addr} {h : Bool} {S I : Nat → Int} {E : List Ex} {top : Nat} {w wr : World} (s : TsR c h S I E top w wr) (L : Nat → Nat → Int) (d : Nat) (e : wr.heap.size = d) :
    TsR c h S I E top w (wr.alloc (.cells (arrv 9 (sideV L)) 41)) ∧ VLs (wr.alloc (.cells (arrv 9 (sideV L)) 41)) d 0 3 L := by
  subst e; exact ⟨s.alloc _, vls_of (Blk.new wr _ 9 _)⟩
theorem ts_sl2 {c : Addr} {h : Bool} {S I : Nat → Int} {E : List Ex} {top : Nat} {w wr : World} (s : TsR c h S I E top w wr) (L : Nat → Nat → Int) (d : Nat) (e : wr.heap.size = d) :
    TsR c h S I E top w (wr.alloc (.cells (arrv 6 (sideV L)) 41)) ∧ VLs (wr.alloc (.cells (arrv 6 (sideV L)) 41)) d 0 2 L := by
  subst e; exact ⟨s.alloc _, vls_of (Blk.new wr _ 6 _)⟩
theorem slc_blk {w : World} {b T n : Nat} {F : Nat → Int} (h : Blk w b T n F) : Slc w (some ⟨b, 0, none⟩) n F := fun i hi => ⟨b, 0, rfl, by rw [Nat.zero_add]; exact h.cell hi⟩
set_option maxHeartbeats 32000000 in
theorem step_any2 (c : Addr) (h : Bool) (S I : Nat → Int) (w : World) (hc : w.cell? c = some (.bool h)) (hf : w.frozen? c = false) :
    Calls Try.prog 19 #[.pointer (some c), .agg (arrv 24 S), .agg (arrv 8 I)] w fun e w' => e = .returned (.agg (arrv 24 (stepN S I))) ∧ Upd c (h || stepH2 S I) w w' := by
  have S0 := Lib.hid (ts_start c h S I w hc hf)
  obtain ⟨KS, hKS⟩ : ∃ x, keepF S = x := ⟨_, rfl⟩
  have SC := fun (x : World) (k : x.cell? c = some (.bool h)) (f : x.frozen? c = false) => split_any c h S I x k f
  rw [hKS] at SC
  obtain ⟨PP, hPP⟩ : ∃ x, spF KS I = x := ⟨_, rfl⟩
  obtain ⟨H1, hH1⟩ : ∃ x, (h || keepH S || spH KS I) = x := ⟨_, rfl⟩
  rw [hPP, hH1] at SC
  have SC := Lib.hid SC
  have KC := fun (x : World) (k : x.cell? c = some (.bool H1)) (f : x.frozen? c = false) => keep_any c H1 S x k f
  obtain ⟨H2, hH2⟩ : ∃ x, (H1 || keepH S) = x := ⟨_, rfl⟩
  rw [hKS, hH2] at KC
  have KC := Lib.hid KC
  have QC := fun (x : World) (k : x.cell? c = some (.bool H2)) (f : x.frozen? c = false) => qmul_any c H2 KS (fun i => PP (7 + i)) x k f
  obtain ⟨QM, hQM⟩ : ∃ x, qmV KS (fun i => PP (7 + i)) = x := ⟨_, rfl⟩
  obtain ⟨H3, hH3⟩ : ∃ x, (H2 || qmH KS (fun i => PP (7 + i))) = x := ⟨_, rfl⟩
  rw [hQM, hH3] at QC
  have QC := Lib.hid QC
  have UC := fun (x : World) (k : x.cell? c = some (.bool H3)) (f : x.frozen? c = false) => qunit_any c H3 QM x k f
  obtain ⟨QU, hQU⟩ : ∃ x, uniV QM = x := ⟨_, rfl⟩
  obtain ⟨H4, hH4⟩ : ∃ x, (H3 || uniH QM) = x := ⟨_, rfl⟩
  rw [hQU, hH4] at UC
  have UC := Lib.hid UC
  have AC := fun (x : World) (k : x.cell? c = some (.bool H4)) (f : x.frozen? c = false) => apply_any c H4 (fun i => PP (11 + i)) (fun i => PP (4 + i)) x k f
  obtain ⟨AV, hAV⟩ : ∃ x, apV (fun i => PP (11 + i)) (fun i => PP (4 + i)) = x := ⟨_, rfl⟩
  obtain ⟨H5, hH5⟩ : ∃ x, (H4 || apH (fun i => PP (11 + i)) (fun i => PP (4 + i))) = x := ⟨_, rfl⟩
  rw [hAV, hH5] at AC
  have AC := Lib.hid AC
  obtain ⟨dt, hdt⟩ : ∃ x, PP 0 = x := ⟨_, rfl⟩
  have GC := fun (x : World) (k : x.cell? c = some (.bool H5)) (f : x.frozen? c = false) => fmul_any c H5 10529810258 dt 30 x k f
  obtain ⟨gv, hgv⟩ : ∃ x, mulV 10529810258 dt 30 = x := ⟨_, rfl⟩
  obtain ⟨H6, hH6⟩ : ∃ x, (H5 || mulH 10529810258 dt 30) = x := ⟨_, rfl⟩
  rw [hgv, hH6] at GC
  have GC := Lib.hid GC
  obtain ⟨VV, hVV⟩ : ∃ x, partF KS 4 = x := ⟨_, rfl⟩
  obtain ⟨XX, hXX⟩ : ∃ x, partF KS 7 = x := ⟨_, rfl⟩
  have NC := fun (x : World) (b : Nat) (k : x.cell? c = some (.bool H6)) (f : x.frozen? c = false) (s : VLs x b 0 3 (v3L VV AV (vc3 0 0 gv))) => vadd_any c H6 b 0 3 3 (v3L VV AV (vc3 0 0 gv)) x k f (by decide) (by decide) s
  obtain ⟨NN, hNN⟩ : ∃ x, vaV (v3L VV AV (vc3 0 0 gv)) 3 = x := ⟨_, rfl⟩
  obtain ⟨H7, hH7⟩ : ∃ x, (H6 || orB (vaH (v3L VV AV (vc3 0 0 gv)) 3) 3) = x := ⟨_, rfl⟩
  rw [hNN, hH7] at NC
  have NC := Lib.hid NC
  have FC := fun (x : World) (k : x.cell? c = some (.bool H7)) (f : x.frozen? c = false) => fmul_any c H7 dt 536870912 30 x k f
  obtain ⟨hv, hhv⟩ : ∃ x, mulV dt 536870912 30 = x := ⟨_, rfl⟩
  obtain ⟨H8, hH8⟩ : ∃ x, (H7 || mulH dt 536870912 30) = x := ⟨_, rfl⟩
  rw [hhv, hH8] at FC
  have FC := Lib.hid FC
  have MC := fun (x : World) (b : Nat) (k : x.cell? c = some (.bool H8)) (f : x.frozen? c = false) (s : VLs x b 0 2 (v2L VV NN)) => vadd_any c H8 b 0 2 2 (v2L VV NN) x k f (by decide) (by decide) s
  obtain ⟨MM, hMM⟩ : ∃ x, vaV (v2L VV NN) 2 = x := ⟨_, rfl⟩
  obtain ⟨H9, hH9⟩ : ∃ x, (H8 || orB (vaH (v2L VV NN) 2) 3) = x := ⟨_, rfl⟩
  rw [hMM, hH9] at MC
  have MC := Lib.hid MC
  have LC := fun (x : World) (k : x.cell? c = some (.bool H9)) (f : x.frozen? c = false) => vscale_any c H9 MM hv x k f
  obtain ⟨LL, hLL⟩ : ∃ L : Nat → Int, (fun i => mulV (MM i) hv 30) = L := ⟨_, rfl⟩
  obtain ⟨Ha, hHa⟩ : ∃ x, (H9 || orB (fun i => mulH (MM i) hv 30) 3) = x := ⟨_, rfl⟩
  rw [hLL, hHa] at LC
  have LC := Lib.hid LC
  have XC := fun (x : World) (b : Nat) (k : x.cell? c = some (.bool Ha)) (f : x.frozen? c = false) (s : VLs x b 0 2 (v2L XX LL)) => vadd_any c Ha b 0 2 2 (v2L XX LL) x k f (by decide) (by decide) s
  obtain ⟨YY, hYY⟩ : ∃ x, vaV (v2L XX LL) 2 = x := ⟨_, rfl⟩
  obtain ⟨Hb, hHb⟩ : ∃ x, (Ha || orB (vaH (v2L XX LL) 2) 3) = x := ⟨_, rfl⟩
  rw [hYY, hHb] at XC
  have XC := Lib.hid XC
  obtain ⟨S1, hS1⟩ : ∃ x, withF KS 0 4 QU = x := ⟨_, rfl⟩
  obtain ⟨S2, hS2⟩ : ∃ x, withF S1 4 3 NN = x := ⟨_, rfl⟩
  obtain ⟨S3, hS3⟩ : ∃ x, withF S2 7 3 YY = x := ⟨_, rfl⟩
  have EC := fun (x : World) (k : x.cell? c = some (.bool Hb)) (f : x.frozen? c = false) => keep_any c Hb S3 x k f
  obtain ⟨RR, hRR⟩ : ∃ x, keepF S3 = x := ⟨_, rfl⟩
  obtain ⟨Hc, hHc⟩ : ∃ x, (Hb || keepH S3) = x := ⟨_, rfl⟩
  rw [hRR, hHc] at EC
  have EC := Lib.hid EC
  have HE := Lib.hid (show stepN S I = RR ∧ (h || stepH2 S I) = Hc by
    have e1 : stQ KS PP = QU := by unfold stQ; rw [hQM, hQU]
    have e2 : stA PP = AV := by unfold stA; rw [hAV]
    have e3 : stG PP = vc3 0 0 gv := by unfold stG; rw [hdt, hgv]
    have e4 : stN KS PP = NN := by unfold stN; rw [hVV, e2, e3, hNN]
    have e5 : stF PP = hv := by unfold stF; rw [hdt, hhv]
    have e6 : stM KS PP = MM := by unfold stM; rw [hVV, e4, hMM]
    have e7 : stL KS PP = LL := by unfold stL; rw [e6, e5, hLL]
    have e8 : stX KS PP = YY := by unfold stX; rw [hXX, e7, hYY]
    have e9 : stS KS PP = S3 := by unfold stS; rw [e1, e4, e8, hS1, hS2, hS3]
    unfold stepN stepH2 stHH
    rw [hKS, hPP, e2, e3, e4, e5, e6, e7, e9, hVV, hXX, hdt, hQM]
    refine ⟨hRR, ?_⟩
    rw [← hHc, ← hHb, ← hHa, ← hH9, ← hH8, ← hH7, ← hH6, ← hH5, ← hH4, ← hH3, ← hH2, ← hH1]
    simp only [Bool.or_assoc])
  have HDT := Lib.hid hdt
  have HW := Lib.hid (And.intro hS1 (And.intro hS2 hS3))
  have HV := Lib.hid (And.intro hVV hXX)
  clear hKS hPP hH1 hH2 hQM hH3 hQU hH4 hAV hH5 hdt hgv hH6 hVV hXX hNN hH7 hhv hH8 hMM hH9 hLL hHa hYY hHb hS1 hS2 hS3 hRR hHc hc hf
  go_enter Try.func19, Try.ntmps19
  go_upto_region 1 with fail
  generalize ((w.alloc (.cells (arrv 24 S) 30)).alloc (.cells (arrv 8 I) 33)).alloc (.cells #[.int .i64 0, .int .i64 0, .int .i64 0, .int .i64 0, .int .i64 0, .int .i64 0, .int .i64 0, .int .i64 0, .int .i64 0, .int .i64 0, .int .i64 0, .int .i64 0, .int .i64 0, .int .i64 0, .int .i64 0, .int .i64 0, .int .i64 0, .int .i64 0, .int .i64 0, .int .i64 0, .int .i64 0, .int .i64 0, .int .i64 0, .int .i64 0] 30) = W0 at *
  have P0 := S0.out.s
  have I0 := S0.out.i
  refine wp_region_lit ?_
  refine wpList_val (v := ?_) rfl ?_ ?_
  rotate_left
  · (go_simp; (try (first | with_reducible rfl | (constructor <;> with_reducible rfl))))
  (try simp only [Act.put, nA, nB, nC])
  refine wpList_val (v := ?_) rfl ?_ ?_
  rotate_left
  · refine Eq.trans (run_load_row 30 (.tmp 4) (by rfl) (w.heap.size) (by rfl) _ _ _ _ (P0) Try.underlying30 rfl (ist.trans (by rw [arrv_size]))) ?_; with_reducible rfl
  (try simp only [Act.put, nA, nB, nC])
  refine wpList_val (v := ?_) rfl ?_ ?_
  rotate_left
  · (refine Eq.trans (run_load_row 33 (.tmp 5) (by rfl) (w.heap.size + 1) (by rfl) _ _ _ _ I0 Try.underlying33 rfl (iimu.trans (by rw [arrv_size]))) ?_; with_reducible rfl)
  (try simp only [Act.put, nA, nB, nC])
  refine wpList_step (fun K hK => ?_)
  go_simp
  (refine (SC.out _ S0.out.cell S0.out.free).mono ?_); rintro e w1 ⟨rfl, hu⟩; have S1' := Lib.hid (S0.out.upd' hu); clear hu P0 I0 S0 SC; have NB := Lib.hid (ts_new20 S1'.out)
  (try dsimp only)
  (try simp only [Act.put, nA, nB, nC])
  refine hK _ _ ?_
  clear hK K
  refine wpList_act (v := ?_) (w' := ?_) rfl ?_ ?_
  rotate_left 2
  · (go_simp; (try (first | with_reducible rfl | (constructor <;> with_reducible rfl))))
  (try simp only [Act.put, nA, nB, nC])
  refine wpList_done (w' := ?_) rfl ?_ ?_
  rotate_left
  · (refine Eq.trans (run_store_row 64 (.tmp 7) (.tmp 16) (by rfl) (w1.heap.size) (by rfl) (by rfl) NB.out.1 (iprt.trans rfl)) ?_; with_reducible rfl)
  (try simp only [Act.put, nA, nB, nC])
  refine wpList_nil ?_
  have HS := Lib.hid ((S1'.out.alloc (.cells #[.int .i64 0, .int .i64 0, .int .i64 0, .int .i64 0, .int .i64 0, .int .i64 0, .int .i64 0, .int .i64 0, .int .i64 0, .int .i64 0, .int .i64 0, .int .i64 0, .int .i64 0, .int .i64 0, .int .i64 0, .int .i64 0, .int .i64 0, .int .i64 0, .int .i64 0, .int .i64 0] 64)).put NB.out.1 NB.out.2 PP)
  generalize (w1.alloc (.cells #[.int .i64 0, .int .i64 0, .int .i64 0, .int .i64 0, .int .i64 0, .int .i64 0, .int .i64 0, .int .i64 0, .int .i64 0, .int .i64 0, .int .i64 0, .int .i64 0, .int .i64 0, .int .i64 0, .int .i64 0, .int .i64 0, .int .i64 0, .int .i64 0, .int .i64 0, .int .i64 0] 64)).setRow w1.heap.size (arrv 20 PP) = W1 at *
  obtain ⟨pb, hpb⟩ : ∃ x, w1.heap.size = x := ⟨_, rfl⟩
  rw [hpb] at HS ⊢
  clear hpb NB S1'
  have P0 := HS.out.s
  go_upto_region 3 with (first | (refine wpList_load_row rfl 30 _ rfl (w.heap.size) rfl 30 _ (0, 0) _ (P0) Try.underlying30 rfl (ist.trans (by rw [arrv_size])) ?_) | (go_at_call 27; (refine (KC.out _ HS.out.cell HS.out.free).mono ?_); rintro e w2 ⟨rfl, hu1⟩; have HT := Lib.hid (HS.out.upd' hu1); have P1 := HT.out.s; clear hu1 HS KC) | (refine wpList_store_row rfl 30 _ _ rfl (w.heap.size) _ rfl rfl 30 _ (P1) (ist.trans (by rw [arrv_size])) (by rw [arrv_size, arrv_size]) (oneCell_arrv _ _) ?_))
  have HS := Lib.hid ((HT.out.rowS KS).drew)
  generalize w2.setRow w.heap.size (arrv 24 KS) = W2 at *
  clear P0 P1 HT
  (try simp only [Act.put])
  go_cut [8] from 20 to 27 (fun s8 wx => ∃ b, s8 = .pointer (some ⟨b, 0, none⟩) ∧ Hid (TsR c H4 KS I [⟨b, 40, 4, QU⟩, ⟨pb, 64, 20, PP⟩] (b + 1) w wx))
  case first =>
    refine wp_region_M (fun w' => Blk w' w.heap.size 30 24 KS ∧ Blk w' pb 64 20 PP) 9 (by kernel_rfl) ?_ (fun hHeld => ?_)
    · exact ⟨HS.out.s, HS.out.ex0⟩
    refine wpAnyM_take 0 (v := ?_) rfl (by kernel_rfl) (fun _ _ _ h => h) (Or.inl ⟨by rfl, ?_⟩) (by assumption) ?_
    rotate_left
    · (intro wx hSw; (try dsimp only at hSw); go_simp; (try with_reducible rfl))
    (try simp only [Act.put, nA, nB, nC])
    refine wpAnyM_take 1 (v := ?_) rfl (by kernel_rfl) (fun _ _ _ h => h) (Or.inl ⟨by rfl, ?_⟩) (by assumption) ?_
    rotate_left
    · (intro wx hSw; (try dsimp only at hSw); go_simp; (try with_reducible rfl))
    (try simp only [Act.put, nA, nB, nC])
    refine wpAnyM_take 2 (v := ?_) rfl (by kernel_rfl) (fun _ _ _ h => h) (Or.inl ⟨by rfl, ?_⟩) (by assumption) ?_
    rotate_left
    · (intro wx hSw; refine Eq.trans (run_load_row 30 (.tmp 4) (by rfl) (w.heap.size) (by rfl) _ _ _ _ (hSw.1) Try.underlying30 rfl (ist.trans (by rw [arrv_size]))) ?_; with_reducible rfl)
    (try simp only [Act.put, nA, nB, nC])
    refine wpAnyM_take 4 (v := ?_) rfl (by kernel_rfl) (fun _ _ _ h => h) (Or.inl ⟨by rfl, ?_⟩) (by assumption) ?_
    rotate_left
    · (intro wx hSw; (try dsimp only at hSw); go_simp; (try with_reducible rfl))
    (try simp only [Act.put, nA, nB, nC])
    refine wpAnyM_take 5 (v := ?_) rfl (by kernel_rfl) (fun _ _ _ h => h) (Or.inl ⟨by rfl, ?_⟩) (by assumption) ?_
    rotate_left
    · (intro wx hSw; refine Eq.trans (run_load_sub 40 (.tmp 24) (by rfl) pb 7 4 (by rfl) hSw.2 (by decide) _ Try.underlying40 rfl iqt) ?_; with_reducible rfl)
    (try simp only [Act.put, nA, nB, nC])
    refine wpAnyM_twoS 3 8 rfl rfl (by kernel_rfl) (fun K hK => ?_) (fun K hK => ?_)
    · go_simp
      (refine (att_any KS _).mono ?_); rintro e w3 ⟨rfl, hb⟩; have HS2 := Lib.hid (HS.out.down hb); clear HS; have HS := HS2; clear HS2; (try (have HA2 := Lib.hid (And.intro (HA.out.1.below hb) HA.out.2); clear HA; have HA := HA2; clear HA2)); (try (have HL2 := Lib.hid (HL.out.below hb); clear HL; have HL := HL2; clear HL2)); (try (have HM2 := Lib.hid (HM.out.below hb); clear HM; have HM := HM2; clear HM2)); clear hb
      (try dsimp only)
      (try simp only [Act.put, nA, nB, nC])
      clear hHeld
      refine hK.out _ _ ?_ (fun hHeld => ?_)
      · exact ⟨HS.out.s, HS.out.ex0⟩
      clear hK K
      (try simp only [Act.put, nA, nB, nC])
      refine wpAnyM_twoS 6 8 rfl rfl (by kernel_rfl) (fun K hK => ?_) (fun K hK => ?_)
      · go_simp
        (refine (QC.out _ HS.out.cell HS.out.free).mono ?_); rintro e w4 ⟨rfl, hu⟩; have hcl := HS.out.cell; have hcb := HS.out.cb; have hlm := HS.out.lim; have HS2 := Lib.hid (HS.out.upd' hu); clear HS; have HS := HS2; clear HS2; (try (have HA2 := Lib.hid (And.intro (HA.out.1.upd hu (by have := HA.out.2; omega)) HA.out.2); clear HA; have HA := HA2; clear HA2)); (try (have HL2 := Lib.hid (HL.out.upd hcl hu); clear HL; have HL := HL2; clear HL2)); (try (have HM2 := Lib.hid (HM.out.upd hcl hu); clear HM; have HM := HM2; clear HM2)); clear hu hcl hcb hlm
        (try dsimp only)
        (try simp only [Act.put, nA, nB, nC])
        clear hHeld
        refine hK.out _ _ ?_ (fun hHeld => ?_)
        · exact ⟨HS.out.s, HS.out.ex0⟩
        clear hK K
        (try simp only [Act.put, nA, nB, nC])
        refine wpAnyM_twoS 7 8 rfl rfl (by kernel_rfl) (fun K hK => ?_) (fun K hK => ?_)
        · go_simp
          (refine (UC.out _ HS.out.cell HS.out.free).mono ?_); rintro e w5 ⟨rfl, hu⟩; have hcl := HS.out.cell; have hcb := HS.out.cb; have hlm := HS.out.lim; have HS2 := Lib.hid (HS.out.upd' hu); clear HS; have HS := HS2; clear HS2; (try (have HA2 := Lib.hid (And.intro (HA.out.1.upd hu (by have := HA.out.2; omega)) HA.out.2); clear HA; have HA := HA2; clear HA2)); (try (have HL2 := Lib.hid (HL.out.upd hcl hu); clear HL; have HL := HL2; clear HL2)); (try (have HM2 := Lib.hid (HM.out.upd hcl hu); clear HM; have HM := HM2; clear HM2)); clear hu hcl hcb hlm
          (try dsimp only)
          (try simp only [Act.put, nA, nB, nC])
          clear hHeld
          refine hK.out _ _ ?_ (fun hHeld => ?_)
          · exact ⟨HS.out.s, HS.out.ex0⟩
          clear hK K
          (try simp only [Act.put, nA, nB, nC])
          refine wpAnyM_oneS 8 rfl (by kernel_rfl) (fun K hK => ?_)
          go_simp; have HA := Lib.hid (ts_new4 HS.out _ (by first | (simp; rfl) | rfl)); have HS2 := Lib.hid (HS.out.alloc (.cells #[.int .i64 0, .int .i64 0, .int .i64 0, .int .i64 0] 40)); clear HS; have HS := HS2; clear HS2; (try (have HL2 := Lib.hid (HL.out.below (Below.alloc (Below.refl _ _) (Nat.le_refl _) (.cells #[.int .i64 0, .int .i64 0, .int .i64 0, .int .i64 0] 40))); clear HL; have HL := HL2; clear HL2)); (try (have HM2 := Lib.hid (HM.out.below (Below.alloc (Below.refl _ _) (Nat.le_refl _) (.cells #[.int .i64 0, .int .i64 0, .int .i64 0, .int .i64 0] 40))); clear HM; have HM := HM2; clear HM2))
          clear hHeld
          refine hK.out _ _ ?_ (fun hHeld => ?_)
          · exact ⟨HS.out.s, HS.out.ex0⟩
          clear hK K
          (try simp only [Act.put, nA, nB, nC])
          refine wpAnyM_one 9 rfl (by kernel_rfl) (fun K hK => ?_)
          refine if_pos_of rfl ?_; refine wp_of_run (run_store_row 40 (.tmp 8) (.tmp 27) rfl _ rfl rfl HA.out.1 iqt) ?_
          refine hK.out _ _ (.inl (by kernel_rfl)) (fun _ => ?_)
          clear hK K
          (try simp only [Act.put, nA, nB, nC])
          refine wpAnyM_done (by kernel_rfl) ?_ _
          (go_wp2_with fail; go_meet; exact ⟨_, rfl, Lib.hid (HS.out.put HA.out.1 HA.out.2 QU)⟩)
        · go_simp; have HA := Lib.hid (ts_new4 HS.out _ (by first | (simp; rfl) | rfl)); have HS2 := Lib.hid (HS.out.alloc (.cells #[.int .i64 0, .int .i64 0, .int .i64 0, .int .i64 0] 40)); clear HS; have HS := HS2; clear HS2; (try (have HL2 := Lib.hid (HL.out.below (Below.alloc (Below.refl _ _) (Nat.le_refl _) (.cells #[.int .i64 0, .int .i64 0, .int .i64 0, .int .i64 0] 40))); clear HL; have HL := HL2; clear HL2)); (try (have HM2 := Lib.hid (HM.out.below (Below.alloc (Below.refl _ _) (Nat.le_refl _) (.cells #[.int .i64 0, .int .i64 0, .int .i64 0, .int .i64 0] 40))); clear HM; have HM := HM2; clear HM2))
          clear hHeld
          refine hK.out _ _ ?_ (fun hHeld => ?_)
          · exact ⟨HS.out.s, HS.out.ex0⟩
          clear hK K
          (try simp only [Act.put, nA, nB, nC])
          refine wpAnyM_oneS 7 rfl (by kernel_rfl) (fun K hK => ?_)
          go_simp
          (refine (UC.out _ HS.out.cell HS.out.free).mono ?_); rintro e w5 ⟨rfl, hu⟩; have hcl := HS.out.cell; have hcb := HS.out.cb; have hlm := HS.out.lim; have HS2 := Lib.hid (HS.out.upd' hu); clear HS; have HS := HS2; clear HS2; (try (have HA2 := Lib.hid (And.intro (HA.out.1.upd hu (by have := HA.out.2; omega)) HA.out.2); clear HA; have HA := HA2; clear HA2)); (try (have HL2 := Lib.hid (HL.out.upd hcl hu); clear HL; have HL := HL2; clear HL2)); (try (have HM2 := Lib.hid (HM.out.upd hcl hu); clear HM; have HM := HM2; clear HM2)); clear hu hcl hcb hlm
          (try dsimp only)
          (try simp only [Act.put, nA, nB, nC])
          clear hHeld
          refine hK.out _ _ ?_ (fun hHeld => ?_)
          · exact ⟨HS.out.s, HS.out.ex0⟩
          clear hK K
          (try simp only [Act.put, nA, nB, nC])
          refine wpAnyM_one 9 rfl (by kernel_rfl) (fun K hK => ?_)
          refine if_pos_of rfl ?_; refine wp_of_run (run_store_row 40 (.tmp 8) (.tmp 27) rfl _ rfl rfl HA.out.1 iqt) ?_
          refine hK.out _ _ (.inl (by kernel_rfl)) (fun _ => ?_)
          clear hK K
          (try simp only [Act.put, nA, nB, nC])
          refine wpAnyM_done (by kernel_rfl) ?_ _
          (go_wp2_with fail; go_meet; exact ⟨_, rfl, Lib.hid (HS.out.put HA.out.1 HA.out.2 QU)⟩)
      · go_simp; have HA := Lib.hid (ts_new4 HS.out _ (by first | (simp; rfl) | rfl)); have HS2 := Lib.hid (HS.out.alloc (.cells #[.int .i64 0, .int .i64 0, .int .i64 0, .int .i64 0] 40)); clear HS; have HS := HS2; clear HS2; (try (have HL2 := Lib.hid (HL.out.below (Below.alloc (Below.refl _ _) (Nat.le_refl _) (.cells #[.int .i64 0, .int .i64 0, .int .i64 0, .int .i64 0] 40))); clear HL; have HL := HL2; clear HL2)); (try (have HM2 := Lib.hid (HM.out.below (Below.alloc (Below.refl _ _) (Nat.le_refl _) (.cells #[.int .i64 0, .int .i64 0, .int .i64 0, .int .i64 0] 40))); clear HM; have HM := HM2; clear HM2))
        clear hHeld
        refine hK.out _ _ ?_ (fun hHeld => ?_)
        · exact ⟨HS.out.s, HS.out.ex0⟩
        clear hK K
        (try simp only [Act.put, nA, nB, nC])
        refine wpAnyM_oneS 6 rfl (by kernel_rfl) (fun K hK => ?_)
        go_simp
        (refine (QC.out _ HS.out.cell HS.out.free).mono ?_); rintro e w4 ⟨rfl, hu⟩; have hcl := HS.out.cell; have hcb := HS.out.cb; have hlm := HS.out.lim; have HS2 := Lib.hid (HS.out.upd' hu); clear HS; have HS := HS2; clear HS2; (try (have HA2 := Lib.hid (And.intro (HA.out.1.upd hu (by have := HA.out.2; omega)) HA.out.2); clear HA; have HA := HA2; clear HA2)); (try (have HL2 := Lib.hid (HL.out.upd hcl hu); clear HL; have HL := HL2; clear HL2)); (try (have HM2 := Lib.hid (HM.out.upd hcl hu); clear HM; have HM := HM2; clear HM2)); clear hu hcl hcb hlm
        (try dsimp only)
        (try simp only [Act.put, nA, nB, nC])
        clear hHeld
        refine hK.out _ _ ?_ (fun hHeld => ?_)
        · exact ⟨HS.out.s, HS.out.ex0⟩
        clear hK K
        (try simp only [Act.put, nA, nB, nC])
        refine wpAnyM_oneS 7 rfl (by kernel_rfl) (fun K hK => ?_)
        go_simp
        (refine (UC.out _ HS.out.cell HS.out.free).mono ?_); rintro e w5 ⟨rfl, hu⟩; have hcl := HS.out.cell; have hcb := HS.out.cb; have hlm := HS.out.lim; have HS2 := Lib.hid (HS.out.upd' hu); clear HS; have HS := HS2; clear HS2; (try (have HA2 := Lib.hid (And.intro (HA.out.1.upd hu (by have := HA.out.2; omega)) HA.out.2); clear HA; have HA := HA2; clear HA2)); (try (have HL2 := Lib.hid (HL.out.upd hcl hu); clear HL; have HL := HL2; clear HL2)); (try (have HM2 := Lib.hid (HM.out.upd hcl hu); clear HM; have HM := HM2; clear HM2)); clear hu hcl hcb hlm
        (try dsimp only)
        (try simp only [Act.put, nA, nB, nC])
        clear hHeld
        refine hK.out _ _ ?_ (fun hHeld => ?_)
        · exact ⟨HS.out.s, HS.out.ex0⟩
        clear hK K
        (try simp only [Act.put, nA, nB, nC])
        refine wpAnyM_one 9 rfl (by kernel_rfl) (fun K hK => ?_)
        refine if_pos_of rfl ?_; refine wp_of_run (run_store_row 40 (.tmp 8) (.tmp 27) rfl _ rfl rfl HA.out.1 iqt) ?_
        refine hK.out _ _ (.inl (by kernel_rfl)) (fun _ => ?_)
        clear hK K
        (try simp only [Act.put, nA, nB, nC])
        refine wpAnyM_done (by kernel_rfl) ?_ _
        (go_wp2_with fail; go_meet; exact ⟨_, rfl, Lib.hid (HS.out.put HA.out.1 HA.out.2 QU)⟩)
    · go_simp; have HA := Lib.hid (ts_new4 HS.out _ (by first | (simp; rfl) | rfl)); have HS2 := Lib.hid (HS.out.alloc (.cells #[.int .i64 0, .int .i64 0, .int .i64 0, .int .i64 0] 40)); clear HS; have HS := HS2; clear HS2; (try (have HL2 := Lib.hid (HL.out.below (Below.alloc (Below.refl _ _) (Nat.le_refl _) (.cells #[.int .i64 0, .int .i64 0, .int .i64 0, .int .i64 0] 40))); clear HL; have HL := HL2; clear HL2)); (try (have HM2 := Lib.hid (HM.out.below (Below.alloc (Below.refl _ _) (Nat.le_refl _) (.cells #[.int .i64 0, .int .i64 0, .int .i64 0, .int .i64 0] 40))); clear HM; have HM := HM2; clear HM2))
      clear hHeld
      refine hK.out _ _ ?_ (fun hHeld => ?_)
      · exact ⟨HS.out.s, HS.out.ex0⟩
      clear hK K
      (try simp only [Act.put, nA, nB, nC])
      refine wpAnyM_oneS 3 rfl (by kernel_rfl) (fun K hK => ?_)
      go_simp
      (refine (att_any KS _).mono ?_); rintro e w3 ⟨rfl, hb⟩; have HS2 := Lib.hid (HS.out.down hb); clear HS; have HS := HS2; clear HS2; (try (have HA2 := Lib.hid (And.intro (HA.out.1.below hb) HA.out.2); clear HA; have HA := HA2; clear HA2)); (try (have HL2 := Lib.hid (HL.out.below hb); clear HL; have HL := HL2; clear HL2)); (try (have HM2 := Lib.hid (HM.out.below hb); clear HM; have HM := HM2; clear HM2)); clear hb
      (try dsimp only)
      (try simp only [Act.put, nA, nB, nC])
      clear hHeld
      refine hK.out _ _ ?_ (fun hHeld => ?_)
      · exact ⟨HS.out.s, HS.out.ex0⟩
      clear hK K
      (try simp only [Act.put, nA, nB, nC])
      refine wpAnyM_oneS 6 rfl (by kernel_rfl) (fun K hK => ?_)
      go_simp
      (refine (QC.out _ HS.out.cell HS.out.free).mono ?_); rintro e w4 ⟨rfl, hu⟩; have hcl := HS.out.cell; have hcb := HS.out.cb; have hlm := HS.out.lim; have HS2 := Lib.hid (HS.out.upd' hu); clear HS; have HS := HS2; clear HS2; (try (have HA2 := Lib.hid (And.intro (HA.out.1.upd hu (by have := HA.out.2; omega)) HA.out.2); clear HA; have HA := HA2; clear HA2)); (try (have HL2 := Lib.hid (HL.out.upd hcl hu); clear HL; have HL := HL2; clear HL2)); (try (have HM2 := Lib.hid (HM.out.upd hcl hu); clear HM; have HM := HM2; clear HM2)); clear hu hcl hcb hlm
      (try dsimp only)
      (try simp only [Act.put, nA, nB, nC])
      clear hHeld
      refine hK.out _ _ ?_ (fun hHeld => ?_)
      · exact ⟨HS.out.s, HS.out.ex0⟩
      clear hK K
      (try simp only [Act.put, nA, nB, nC])
      refine wpAnyM_oneS 7 rfl (by kernel_rfl) (fun K hK => ?_)
      go_simp
      (refine (UC.out _ HS.out.cell HS.out.free).mono ?_); rintro e w5 ⟨rfl, hu⟩; have hcl := HS.out.cell; have hcb := HS.out.cb; have hlm := HS.out.lim; have HS2 := Lib.hid (HS.out.upd' hu); clear HS; have HS := HS2; clear HS2; (try (have HA2 := Lib.hid (And.intro (HA.out.1.upd hu (by have := HA.out.2; omega)) HA.out.2); clear HA; have HA := HA2; clear HA2)); (try (have HL2 := Lib.hid (HL.out.upd hcl hu); clear HL; have HL := HL2; clear HL2)); (try (have HM2 := Lib.hid (HM.out.upd hcl hu); clear HM; have HM := HM2; clear HM2)); clear hu hcl hcb hlm
      (try dsimp only)
      (try simp only [Act.put, nA, nB, nC])
      clear hHeld
      refine hK.out _ _ ?_ (fun hHeld => ?_)
      · exact ⟨HS.out.s, HS.out.ex0⟩
      clear hK K
      (try simp only [Act.put, nA, nB, nC])
      refine wpAnyM_one 9 rfl (by kernel_rfl) (fun K hK => ?_)
      refine if_pos_of rfl ?_; refine wp_of_run (run_store_row 40 (.tmp 8) (.tmp 27) rfl _ rfl rfl HA.out.1 iqt) ?_
      refine hK.out _ _ (.inl (by kernel_rfl)) (fun _ => ?_)
      clear hK K
      (try simp only [Act.put, nA, nB, nC])
      refine wpAnyM_done (by kernel_rfl) ?_ _
      (go_wp2_with fail; go_meet; exact ⟨_, rfl, Lib.hid (HS.out.put HA.out.1 HA.out.2 QU)⟩)
  case rest =>
  obtain ⟨qb, rfl, HB⟩ := hcut
  clear HS QC UC
  have P0 := HB.out.s
  go_upto_region 4 with fail
  refine wp_region_lit ?_
  refine wpList_val (v := ?_) rfl ?_ ?_
  rotate_left
  · refine Eq.trans (run_load_row 30 (.tmp 4) (by rfl) (w.heap.size) (by rfl) _ _ _ _ (P0) Try.underlying30 rfl (ist.trans (by rw [arrv_size]))) ?_; with_reducible rfl
  (try simp only [Act.put, nA, nB, nC])
  refine wpList_step (fun K hK => ?_)
  go_simp
  (refine (part_any KS 4 _ (by decide) (by decide)).mono ?_); (rw [HV.out.1]); rintro e w6 ⟨rfl, hb⟩; have HT := Lib.hid (HB.out.down hb); clear hb P0 HB; have NB := Lib.hid (ts_new3 HT.out _ rfl)
  (try dsimp only)
  (try simp only [Act.put, nA, nB, nC])
  refine hK _ _ ?_
  clear hK K
  refine wpList_act (v := ?_) (w' := ?_) rfl ?_ ?_
  rotate_left 2
  · (go_simp; (try (first | with_reducible rfl | (constructor <;> with_reducible rfl))))
  (try simp only [Act.put, nA, nB, nC])
  refine wpList_done (w' := ?_) rfl ?_ ?_
  rotate_left
  · (refine Eq.trans (run_store_row 41 (.tmp 9) (.tmp 29) (by rfl) (w6.heap.size) (by rfl) (by rfl) NB.out.1 (iv3.trans rfl)) ?_; with_reducible rfl)
  (try simp only [Act.put, nA, nB, nC])
  refine wpList_nil ?_
  have HU := Lib.hid ((HT.out.alloc (.cells #[.int .i64 0, .int .i64 0, .int .i64 0] 41)).put NB.out.1 NB.out.2 VV)
  generalize (w6.alloc (.cells #[.int .i64 0, .int .i64 0, .int .i64 0] 41)).setRow w6.heap.size (arrv 3 VV) = W4 at *
  obtain ⟨vb, hvb⟩ : ∃ x, w6.heap.size = x := ⟨_, rfl⟩
  rw [hvb] at HU ⊢
  clear hvb NB HT
  go_upto_region 5 with fail
  have HS := Lib.hid HU.out.drew
  clear HU
  (try simp only [Act.put])
  go_cut [10] from 30 to 44 (fun s10 wx => ∃ b, s10 = .pointer (some ⟨b, 0, none⟩) ∧ Hid (TsR c H7 KS I [⟨b, 41, 3, NN⟩, ⟨vb, 41, 3, VV⟩, ⟨qb, 40, 4, QU⟩, ⟨pb, 64, 20, PP⟩] (b + 1) w wx))
  case first =>
    refine wp_region_M (fun w' => Blk w' vb 41 3 VV ∧ Blk w' pb 64 20 PP) 16 (by kernel_rfl) ?_ (fun hHeld => ?_)
    · exact ⟨HS.out.ex0, HS.out.ex2⟩
    refine wpAnyM_take 0 (v := ?_) rfl (by kernel_rfl) (fun _ _ _ h => h) (Or.inl ⟨by rfl, ?_⟩) (by assumption) ?_
    rotate_left
    · (intro wx hSw; (try dsimp only at hSw); go_simp; (try with_reducible rfl))
    (try simp only [Act.put, nA, nB, nC])
    refine wpAnyM_take 1 (v := ?_) rfl (by kernel_rfl) (fun _ _ _ h => h) (Or.inl ⟨by rfl, ?_⟩) (by assumption) ?_
    rotate_left
    · (intro wx hSw; refine Eq.trans (run_load_row 41 (.tmp 9) (by rfl) (vb) (by rfl) _ _ _ _ (hSw.1) Try.underlying41 rfl (iv3.trans (by rw [arrv_size]))) ?_; with_reducible rfl)
    (try simp only [Act.put, nA, nB, nC])
    refine wpAnyM_take 2 (v := ?_) rfl (by kernel_rfl) (fun _ _ _ h => h) (Or.inl ⟨by rfl, ?_⟩) (by assumption) ?_
    rotate_left
    · (intro wx hSw; (try dsimp only at hSw); go_simp; (try with_reducible rfl))
    (try simp only [Act.put, nA, nB, nC])
    refine wpAnyM_take 3 (v := ?_) rfl (by kernel_rfl) (fun _ _ _ h => h) (Or.inl ⟨by rfl, ?_⟩) (by assumption) ?_
    rotate_left
    · (intro wx hSw; (try dsimp only at hSw); go_simp; (try with_reducible rfl))
    (try simp only [Act.put, nA, nB, nC])
    refine wpAnyM_take 4 (v := ?_) rfl (by kernel_rfl) (fun _ _ _ h => h) (Or.inl ⟨by rfl, ?_⟩) (by assumption) ?_
    rotate_left
    · (intro wx hSw; refine Eq.trans (run_load_sub 45 (.tmp 33) (by rfl) pb 11 9 (by rfl) hSw.2 (by decide) _ Try.underlying45 rfl im9) ?_; with_reducible rfl)
    (try simp only [Act.put, nA, nB, nC])
    refine wpAnyM_take 5 (v := ?_) rfl (by kernel_rfl) (fun _ _ _ h => h) (Or.inl ⟨by rfl, ?_⟩) (by assumption) ?_
    rotate_left
    · (intro wx hSw; (try dsimp only at hSw); go_simp; (try with_reducible rfl))
    (try simp only [Act.put, nA, nB, nC])
    refine wpAnyM_take 6 (v := ?_) rfl (by kernel_rfl) (fun _ _ _ h => h) (Or.inl ⟨by rfl, ?_⟩) (by assumption) ?_
    rotate_left
    · (intro wx hSw; refine Eq.trans (run_load_sub 41 (.tmp 35) (by rfl) pb 4 3 (by rfl) hSw.2 (by decide) _ Try.underlying41 rfl iv3) ?_; with_reducible rfl)
    (try simp only [Act.put, nA, nB, nC])
    refine wpAnyM_take 8 (v := ?_) rfl (by kernel_rfl) (fun _ _ _ h => h) (Or.inl ⟨by rfl, ?_⟩) (by assumption) ?_
    rotate_left
    · (intro wx hSw; (try dsimp only at hSw); go_simp; (try with_reducible rfl))
    (try simp only [Act.put, nA, nB, nC])
    refine wpAnyM_take 9 (v := ?_) rfl (by kernel_rfl) (fun _ _ _ h => h) (Or.inl ⟨by rfl, ?_⟩) (by assumption) ?_
    rotate_left
    · (intro wx hSw; (try dsimp only at hSw); go_simp; (try with_reducible rfl))
    (try simp only [Act.put, nA, nB, nC])
    refine wpAnyM_take 10 (v := ?_) rfl (by kernel_rfl) (fun _ _ _ h => h) (Or.inl ⟨by rfl, ?_⟩) (by assumption) ?_
    rotate_left
    · (intro wx hSw; have h0 := hSw.2.cell (i := 0) (by decide); rw [HDT.out] at h0; go_simp; (try with_reducible rfl))
    (try simp only [Act.put, nA, nB, nC])
    refine wpAnyM_twoS 7 15 rfl rfl (by kernel_rfl) (fun K hK => ?_) (fun K hK => ?_)
    · go_simp
      (refine (AC.out _ HS.out.cell HS.out.free).mono ?_); rintro e w7 ⟨rfl, hu⟩; have hcl := HS.out.cell; have hcb := HS.out.cb; have hlm := HS.out.lim; have HS2 := Lib.hid (HS.out.upd' hu); clear HS; have HS := HS2; clear HS2; (try (have HA2 := Lib.hid (And.intro (HA.out.1.upd hu (by have := HA.out.2; omega)) HA.out.2); clear HA; have HA := HA2; clear HA2)); (try (have HL2 := Lib.hid (HL.out.upd hcl hu); clear HL; have HL := HL2; clear HL2)); (try (have HM2 := Lib.hid (HM.out.upd hcl hu); clear HM; have HM := HM2; clear HM2)); clear hu hcl hcb hlm
      (try dsimp only)
      (try simp only [Act.put, nA, nB, nC])
      clear hHeld
      refine hK.out _ _ ?_ (fun hHeld => ?_)
      · exact ⟨HS.out.ex0, HS.out.ex2⟩
      clear hK K
      (try simp only [Act.put, nA, nB, nC])
      refine wpAnyM_twoS 11 15 rfl rfl (by kernel_rfl) (fun K hK => ?_) (fun K hK => ?_)
      · go_simp
        (refine (GC.out _ HS.out.cell HS.out.free).mono ?_); rintro e w8 ⟨rfl, hu⟩; have hcl := HS.out.cell; have hcb := HS.out.cb; have hlm := HS.out.lim; have HS2 := Lib.hid (HS.out.upd' hu); clear HS; have HS := HS2; clear HS2; (try (have HA2 := Lib.hid (And.intro (HA.out.1.upd hu (by have := HA.out.2; omega)) HA.out.2); clear HA; have HA := HA2; clear HA2)); (try (have HL2 := Lib.hid (HL.out.upd hcl hu); clear HL; have HL := HL2; clear HL2)); (try (have HM2 := Lib.hid (HM.out.upd hcl hu); clear HM; have HM := HM2; clear HM2)); clear hu hcl hcb hlm
        (try dsimp only)
        (try simp only [Act.put, nA, nB, nC])
        clear hHeld
        refine hK.out _ _ ?_ (fun hHeld => ?_)
        · exact ⟨HS.out.ex0, HS.out.ex2⟩
        clear hK K
        (try simp only [Act.put, nA, nB, nC])
        refine wpAnyM_take 12 (v := ?_) rfl (by kernel_rfl) (fun _ _ _ h => h) (Or.inl ⟨by rfl, ?_⟩) (by assumption) ?_
        rotate_left
        · (intro wx hSw; refine Eq.trans (run_build_v3z (.tmp 41) (by rfl) (by rfl)) ?_; with_reducible rfl)
        (try simp only [Act.put, nA, nB, nC])
        refine wpAnyM_twoS 13 15 rfl rfl (by kernel_rfl) (fun K hK => ?_) (fun K hK => ?_)
        · refine if_pos_of (by rfl) (wp_bslv3 (.tmp 31) (.tmp 37) (.tmp 42) rfl rfl rfl rfl ?_); have HT := Lib.hid (ts_sl3 HS.out (v3L VV AV (vc3 0 0 gv)) _ (by first | (simp; rfl) | rfl)); clear HS; have HS := Lib.hid HT.out.1; have HL := Lib.hid HT.out.2; clear HT; (try (have HA2 := Lib.hid (And.intro (HA.out.1.alloc (.cells (arrv 9 (sideV (v3L VV AV (vc3 0 0 gv)))) 41)) HA.out.2); clear HA; have HA := HA2; clear HA2))
          clear hHeld
          refine hK.out _ _ ?_ (fun hHeld => ?_)
          · exact ⟨HS.out.ex0, HS.out.ex2⟩
          clear hK K
          (try simp only [Act.put, nA, nB, nC])
          refine wpAnyM_twoS 14 15 rfl rfl (by kernel_rfl) (fun K hK => ?_) (fun K hK => ?_)
          · go_simp
            (refine (NC.out _ _ HS.out.cell HS.out.free HL.out).mono ?_); rintro e w9 ⟨rfl, hu⟩; clear HL; have hcl := HS.out.cell; have hcb := HS.out.cb; have hlm := HS.out.lim; have HS2 := Lib.hid (HS.out.upd' hu); clear HS; have HS := HS2; clear HS2; (try (have HA2 := Lib.hid (And.intro (HA.out.1.upd hu (by have := HA.out.2; omega)) HA.out.2); clear HA; have HA := HA2; clear HA2)); (try (have HL2 := Lib.hid (HL.out.upd hcl hu); clear HL; have HL := HL2; clear HL2)); (try (have HM2 := Lib.hid (HM.out.upd hcl hu); clear HM; have HM := HM2; clear HM2)); clear hu hcl hcb hlm
            (try dsimp only)
            (try simp only [Act.put, nA, nB, nC])
            clear hHeld
            refine hK.out _ _ ?_ (fun hHeld => ?_)
            · exact ⟨HS.out.ex0, HS.out.ex2⟩
            clear hK K
            (try simp only [Act.put, nA, nB, nC])
            refine wpAnyM_oneS 15 rfl (by kernel_rfl) (fun K hK => ?_)
            go_simp; have HA := Lib.hid (ts_new3 HS.out _ (by first | (simp; rfl) | rfl)); have HS2 := Lib.hid (HS.out.alloc (.cells #[.int .i64 0, .int .i64 0, .int .i64 0] 41)); clear HS; have HS := HS2; clear HS2; (try (have HL2 := Lib.hid (HL.out.below (Below.alloc (Below.refl _ _) (Nat.le_refl _) (.cells #[.int .i64 0, .int .i64 0, .int .i64 0] 41))); clear HL; have HL := HL2; clear HL2)); (try (have HM2 := Lib.hid (HM.out.below (Below.alloc (Below.refl _ _) (Nat.le_refl _) (.cells #[.int .i64 0, .int .i64 0, .int .i64 0] 41))); clear HM; have HM := HM2; clear HM2))
            clear hHeld
            refine hK.out _ _ ?_ (fun hHeld => ?_)
            · exact ⟨HS.out.ex0, HS.out.ex2⟩
            clear hK K
            (try simp only [Act.put, nA, nB, nC])
            refine wpAnyM_one 16 rfl (by kernel_rfl) (fun K hK => ?_)
            refine if_pos_of rfl ?_; refine wp_of_run (run_store_row 41 (.tmp 10) (.tmp 44) rfl _ rfl rfl HA.out.1 iv3) ?_
            refine hK.out _ _ (.inl (by kernel_rfl)) (fun _ => ?_)
            clear hK K
            (try simp only [Act.put, nA, nB, nC])
            refine wpAnyM_done (by kernel_rfl) ?_ _
            (go_wp2_with fail; go_meet; exact ⟨_, rfl, Lib.hid (HS.out.put HA.out.1 HA.out.2 NN)⟩)
          · go_simp; have HA := Lib.hid (ts_new3 HS.out _ (by first | (simp; rfl) | rfl)); have HS2 := Lib.hid (HS.out.alloc (.cells #[.int .i64 0, .int .i64 0, .int .i64 0] 41)); clear HS; have HS := HS2; clear HS2; (try (have HL2 := Lib.hid (HL.out.below (Below.alloc (Below.refl _ _) (Nat.le_refl _) (.cells #[.int .i64 0, .int .i64 0, .int .i64 0] 41))); clear HL; have HL := HL2; clear HL2)); (try (have HM2 := Lib.hid (HM.out.below (Below.alloc (Below.refl _ _) (Nat.le_refl _) (.cells #[.int .i64 0, .int .i64 0, .int .i64 0] 41))); clear HM; have HM := HM2; clear HM2))
            clear hHeld
            refine hK.out _ _ ?_ (fun hHeld => ?_)
            · exact ⟨HS.out.ex0, HS.out.ex2⟩
            clear hK K
            (try simp only [Act.put, nA, nB, nC])
            refine wpAnyM_oneS 14 rfl (by kernel_rfl) (fun K hK => ?_)
            go_simp
            (refine (NC.out _ _ HS.out.cell HS.out.free HL.out).mono ?_); rintro e w9 ⟨rfl, hu⟩; clear HL; have hcl := HS.out.cell; have hcb := HS.out.cb; have hlm := HS.out.lim; have HS2 := Lib.hid (HS.out.upd' hu); clear HS; have HS := HS2; clear HS2; (try (have HA2 := Lib.hid (And.intro (HA.out.1.upd hu (by have := HA.out.2; omega)) HA.out.2); clear HA; have HA := HA2; clear HA2)); (try (have HL2 := Lib.hid (HL.out.upd hcl hu); clear HL; have HL := HL2; clear HL2)); (try (have HM2 := Lib.hid (HM.out.upd hcl hu); clear HM; have HM := HM2; clear HM2)); clear hu hcl hcb hlm
            (try dsimp only)
            (try simp only [Act.put, nA, nB, nC])
            clear hHeld
            refine hK.out _ _ ?_ (fun hHeld => ?_)
            · exact ⟨HS.out.ex0, HS.out.ex2⟩
            clear hK K
            (try simp only [Act.put, nA, nB, nC])
            refine wpAnyM_one 16 rfl (by kernel_rfl) (fun K hK => ?_)
            refine if_pos_of rfl ?_; refine wp_of_run (run_store_row 41 (.tmp 10) (.tmp 44) rfl _ rfl rfl HA.out.1 iv3) ?_
            refine hK.out _ _ (.inl (by kernel_rfl)) (fun _ => ?_)
            clear hK K
            (try simp only [Act.put, nA, nB, nC])
            refine wpAnyM_done (by kernel_rfl) ?_ _
            (go_wp2_with fail; go_meet; exact ⟨_, rfl, Lib.hid (HS.out.put HA.out.1 HA.out.2 NN)⟩)
        · go_simp; have HA := Lib.hid (ts_new3 HS.out _ (by first | (simp; rfl) | rfl)); have HS2 := Lib.hid (HS.out.alloc (.cells #[.int .i64 0, .int .i64 0, .int .i64 0] 41)); clear HS; have HS := HS2; clear HS2; (try (have HL2 := Lib.hid (HL.out.below (Below.alloc (Below.refl _ _) (Nat.le_refl _) (.cells #[.int .i64 0, .int .i64 0, .int .i64 0] 41))); clear HL; have HL := HL2; clear HL2)); (try (have HM2 := Lib.hid (HM.out.below (Below.alloc (Below.refl _ _) (Nat.le_refl _) (.cells #[.int .i64 0, .int .i64 0, .int .i64 0] 41))); clear HM; have HM := HM2; clear HM2))
          clear hHeld
          refine hK.out _ _ ?_ (fun hHeld => ?_)
          · exact ⟨HS.out.ex0, HS.out.ex2⟩
          clear hK K
          (try simp only [Act.put, nA, nB, nC])
          refine wpAnyM_oneS 13 rfl (by kernel_rfl) (fun K hK => ?_)
          refine if_pos_of (by rfl) (wp_bslv3 (.tmp 31) (.tmp 37) (.tmp 42) rfl rfl rfl rfl ?_); have HT := Lib.hid (ts_sl3 HS.out (v3L VV AV (vc3 0 0 gv)) _ (by first | (simp; rfl) | rfl)); clear HS; have HS := Lib.hid HT.out.1; have HL := Lib.hid HT.out.2; clear HT; (try (have HA2 := Lib.hid (And.intro (HA.out.1.alloc (.cells (arrv 9 (sideV (v3L VV AV (vc3 0 0 gv)))) 41)) HA.out.2); clear HA; have HA := HA2; clear HA2))
          clear hHeld
          refine hK.out _ _ ?_ (fun hHeld => ?_)
          · exact ⟨HS.out.ex0, HS.out.ex2⟩
          clear hK K
          (try simp only [Act.put, nA, nB, nC])
          refine wpAnyM_oneS 14 rfl (by kernel_rfl) (fun K hK => ?_)
          go_simp
          (refine (NC.out _ _ HS.out.cell HS.out.free HL.out).mono ?_); rintro e w9 ⟨rfl, hu⟩; clear HL; have hcl := HS.out.cell; have hcb := HS.out.cb; have hlm := HS.out.lim; have HS2 := Lib.hid (HS.out.upd' hu); clear HS; have HS := HS2; clear HS2; (try (have HA2 := Lib.hid (And.intro (HA.out.1.upd hu (by have := HA.out.2; omega)) HA.out.2); clear HA; have HA := HA2; clear HA2)); (try (have HL2 := Lib.hid (HL.out.upd hcl hu); clear HL; have HL := HL2; clear HL2)); (try (have HM2 := Lib.hid (HM.out.upd hcl hu); clear HM; have HM := HM2; clear HM2)); clear hu hcl hcb hlm
          (try dsimp only)
          (try simp only [Act.put, nA, nB, nC])
          clear hHeld
          refine hK.out _ _ ?_ (fun hHeld => ?_)
          · exact ⟨HS.out.ex0, HS.out.ex2⟩
          clear hK K
          (try simp only [Act.put, nA, nB, nC])
          refine wpAnyM_one 16 rfl (by kernel_rfl) (fun K hK => ?_)
          refine if_pos_of rfl ?_; refine wp_of_run (run_store_row 41 (.tmp 10) (.tmp 44) rfl _ rfl rfl HA.out.1 iv3) ?_
          refine hK.out _ _ (.inl (by kernel_rfl)) (fun _ => ?_)
          clear hK K
          (try simp only [Act.put, nA, nB, nC])
          refine wpAnyM_done (by kernel_rfl) ?_ _
          (go_wp2_with fail; go_meet; exact ⟨_, rfl, Lib.hid (HS.out.put HA.out.1 HA.out.2 NN)⟩)
      · go_simp; have HA := Lib.hid (ts_new3 HS.out _ (by first | (simp; rfl) | rfl)); have HS2 := Lib.hid (HS.out.alloc (.cells #[.int .i64 0, .int .i64 0, .int .i64 0] 41)); clear HS; have HS := HS2; clear HS2; (try (have HL2 := Lib.hid (HL.out.below (Below.alloc (Below.refl _ _) (Nat.le_refl _) (.cells #[.int .i64 0, .int .i64 0, .int .i64 0] 41))); clear HL; have HL := HL2; clear HL2)); (try (have HM2 := Lib.hid (HM.out.below (Below.alloc (Below.refl _ _) (Nat.le_refl _) (.cells #[.int .i64 0, .int .i64 0, .int .i64 0] 41))); clear HM; have HM := HM2; clear HM2))
        clear hHeld
        refine hK.out _ _ ?_ (fun hHeld => ?_)
        · exact ⟨HS.out.ex0, HS.out.ex2⟩
        clear hK K
        (try simp only [Act.put, nA, nB, nC])
        refine wpAnyM_oneS 11 rfl (by kernel_rfl) (fun K hK => ?_)
        go_simp
        (refine (GC.out _ HS.out.cell HS.out.free).mono ?_); rintro e w8 ⟨rfl, hu⟩; have hcl := HS.out.cell; have hcb := HS.out.cb; have hlm := HS.out.lim; have HS2 := Lib.hid (HS.out.upd' hu); clear HS; have HS := HS2; clear HS2; (try (have HA2 := Lib.hid (And.intro (HA.out.1.upd hu (by have := HA.out.2; omega)) HA.out.2); clear HA; have HA := HA2; clear HA2)); (try (have HL2 := Lib.hid (HL.out.upd hcl hu); clear HL; have HL := HL2; clear HL2)); (try (have HM2 := Lib.hid (HM.out.upd hcl hu); clear HM; have HM := HM2; clear HM2)); clear hu hcl hcb hlm
        (try dsimp only)
        (try simp only [Act.put, nA, nB, nC])
        clear hHeld
        refine hK.out _ _ ?_ (fun hHeld => ?_)
        · exact ⟨HS.out.ex0, HS.out.ex2⟩
        clear hK K
        (try simp only [Act.put, nA, nB, nC])
        refine wpAnyM_take 12 (v := ?_) rfl (by kernel_rfl) (fun _ _ _ h => h) (Or.inl ⟨by rfl, ?_⟩) (by assumption) ?_
        rotate_left
        · (intro wx hSw; refine Eq.trans (run_build_v3z (.tmp 41) (by rfl) (by rfl)) ?_; with_reducible rfl)
        (try simp only [Act.put, nA, nB, nC])
        refine wpAnyM_oneS 13 rfl (by kernel_rfl) (fun K hK => ?_)
        refine if_pos_of (by rfl) (wp_bslv3 (.tmp 31) (.tmp 37) (.tmp 42) rfl rfl rfl rfl ?_); have HT := Lib.hid (ts_sl3 HS.out (v3L VV AV (vc3 0 0 gv)) _ (by first | (simp; rfl) | rfl)); clear HS; have HS := Lib.hid HT.out.1; have HL := Lib.hid HT.out.2; clear HT; (try (have HA2 := Lib.hid (And.intro (HA.out.1.alloc (.cells (arrv 9 (sideV (v3L VV AV (vc3 0 0 gv)))) 41)) HA.out.2); clear HA; have HA := HA2; clear HA2))
        clear hHeld
        refine hK.out _ _ ?_ (fun hHeld => ?_)
        · exact ⟨HS.out.ex0, HS.out.ex2⟩
        clear hK K
        (try simp only [Act.put, nA, nB, nC])
        refine wpAnyM_oneS 14 rfl (by kernel_rfl) (fun K hK => ?_)
        go_simp
        (refine (NC.out _ _ HS.out.cell HS.out.free HL.out).mono ?_); rintro e w9 ⟨rfl, hu⟩; clear HL; have hcl := HS.out.cell; have hcb := HS.out.cb; have hlm := HS.out.lim; have HS2 := Lib.hid (HS.out.upd' hu); clear HS; have HS := HS2; clear HS2; (try (have HA2 := Lib.hid (And.intro (HA.out.1.upd hu (by have := HA.out.2; omega)) HA.out.2); clear HA; have HA := HA2; clear HA2)); (try (have HL2 := Lib.hid (HL.out.upd hcl hu); clear HL; have HL := HL2; clear HL2)); (try (have HM2 := Lib.hid (HM.out.upd hcl hu); clear HM; have HM := HM2; clear HM2)); clear hu hcl hcb hlm
        (try dsimp only)
        (try simp only [Act.put, nA, nB, nC])
        clear hHeld
        refine hK.out _ _ ?_ (fun hHeld => ?_)
        · exact ⟨HS.out.ex0, HS.out.ex2⟩
        clear hK K
        (try simp only [Act.put, nA, nB, nC])
        refine wpAnyM_one 16 rfl (by kernel_rfl) (fun K hK => ?_)
        refine if_pos_of rfl ?_; refine wp_of_run (run_store_row 41 (.tmp 10) (.tmp 44) rfl _ rfl rfl HA.out.1 iv3) ?_
        refine hK.out _ _ (.inl (by kernel_rfl)) (fun _ => ?_)
        clear hK K
        (try simp only [Act.put, nA, nB, nC])
        refine wpAnyM_done (by kernel_rfl) ?_ _
        (go_wp2_with fail; go_meet; exact ⟨_, rfl, Lib.hid (HS.out.put HA.out.1 HA.out.2 NN)⟩)
    · go_simp; have HA := Lib.hid (ts_new3 HS.out _ (by first | (simp; rfl) | rfl)); have HS2 := Lib.hid (HS.out.alloc (.cells #[.int .i64 0, .int .i64 0, .int .i64 0] 41)); clear HS; have HS := HS2; clear HS2; (try (have HL2 := Lib.hid (HL.out.below (Below.alloc (Below.refl _ _) (Nat.le_refl _) (.cells #[.int .i64 0, .int .i64 0, .int .i64 0] 41))); clear HL; have HL := HL2; clear HL2)); (try (have HM2 := Lib.hid (HM.out.below (Below.alloc (Below.refl _ _) (Nat.le_refl _) (.cells #[.int .i64 0, .int .i64 0, .int .i64 0] 41))); clear HM; have HM := HM2; clear HM2))
      clear hHeld
      refine hK.out _ _ ?_ (fun hHeld => ?_)
      · exact ⟨HS.out.ex0, HS.out.ex2⟩
      clear hK K
      (try simp only [Act.put, nA, nB, nC])
      refine wpAnyM_oneS 7 rfl (by kernel_rfl) (fun K hK => ?_)
      go_simp
      (refine (AC.out _ HS.out.cell HS.out.free).mono ?_); rintro e w7 ⟨rfl, hu⟩; have hcl := HS.out.cell; have hcb := HS.out.cb; have hlm := HS.out.lim; have HS2 := Lib.hid (HS.out.upd' hu); clear HS; have HS := HS2; clear HS2; (try (have HA2 := Lib.hid (And.intro (HA.out.1.upd hu (by have := HA.out.2; omega)) HA.out.2); clear HA; have HA := HA2; clear HA2)); (try (have HL2 := Lib.hid (HL.out.upd hcl hu); clear HL; have HL := HL2; clear HL2)); (try (have HM2 := Lib.hid (HM.out.upd hcl hu); clear HM; have HM := HM2; clear HM2)); clear hu hcl hcb hlm
      (try dsimp only)
      (try simp only [Act.put, nA, nB, nC])
      clear hHeld
      refine hK.out _ _ ?_ (fun hHeld => ?_)
      · exact ⟨HS.out.ex0, HS.out.ex2⟩
      clear hK K
      (try simp only [Act.put, nA, nB, nC])
      refine wpAnyM_oneS 11 rfl (by kernel_rfl) (fun K hK => ?_)
      go_simp
      (refine (GC.out _ HS.out.cell HS.out.free).mono ?_); rintro e w8 ⟨rfl, hu⟩; have hcl := HS.out.cell; have hcb := HS.out.cb; have hlm := HS.out.lim; have HS2 := Lib.hid (HS.out.upd' hu); clear HS; have HS := HS2; clear HS2; (try (have HA2 := Lib.hid (And.intro (HA.out.1.upd hu (by have := HA.out.2; omega)) HA.out.2); clear HA; have HA := HA2; clear HA2)); (try (have HL2 := Lib.hid (HL.out.upd hcl hu); clear HL; have HL := HL2; clear HL2)); (try (have HM2 := Lib.hid (HM.out.upd hcl hu); clear HM; have HM := HM2; clear HM2)); clear hu hcl hcb hlm
      (try dsimp only)
      (try simp only [Act.put, nA, nB, nC])
      clear hHeld
      refine hK.out _ _ ?_ (fun hHeld => ?_)
      · exact ⟨HS.out.ex0, HS.out.ex2⟩
      clear hK K
      (try simp only [Act.put, nA, nB, nC])
      refine wpAnyM_take 12 (v := ?_) rfl (by kernel_rfl) (fun _ _ _ h => h) (Or.inl ⟨by rfl, ?_⟩) (by assumption) ?_
      rotate_left
      · (intro wx hSw; refine Eq.trans (run_build_v3z (.tmp 41) (by rfl) (by rfl)) ?_; with_reducible rfl)
      (try simp only [Act.put, nA, nB, nC])
      refine wpAnyM_oneS 13 rfl (by kernel_rfl) (fun K hK => ?_)
      refine if_pos_of (by rfl) (wp_bslv3 (.tmp 31) (.tmp 37) (.tmp 42) rfl rfl rfl rfl ?_); have HT := Lib.hid (ts_sl3 HS.out (v3L VV AV (vc3 0 0 gv)) _ (by first | (simp; rfl) | rfl)); clear HS; have HS := Lib.hid HT.out.1; have HL := Lib.hid HT.out.2; clear HT; (try (have HA2 := Lib.hid (And.intro (HA.out.1.alloc (.cells (arrv 9 (sideV (v3L VV AV (vc3 0 0 gv)))) 41)) HA.out.2); clear HA; have HA := HA2; clear HA2))
      clear hHeld
      refine hK.out _ _ ?_ (fun hHeld => ?_)
      · exact ⟨HS.out.ex0, HS.out.ex2⟩
      clear hK K
      (try simp only [Act.put, nA, nB, nC])
      refine wpAnyM_oneS 14 rfl (by kernel_rfl) (fun K hK => ?_)
      go_simp
      (refine (NC.out _ _ HS.out.cell HS.out.free HL.out).mono ?_); rintro e w9 ⟨rfl, hu⟩; clear HL; have hcl := HS.out.cell; have hcb := HS.out.cb; have hlm := HS.out.lim; have HS2 := Lib.hid (HS.out.upd' hu); clear HS; have HS := HS2; clear HS2; (try (have HA2 := Lib.hid (And.intro (HA.out.1.upd hu (by have := HA.out.2; omega)) HA.out.2); clear HA; have HA := HA2; clear HA2)); (try (have HL2 := Lib.hid (HL.out.upd hcl hu); clear HL; have HL := HL2; clear HL2)); (try (have HM2 := Lib.hid (HM.out.upd hcl hu); clear HM; have HM := HM2; clear HM2)); clear hu hcl hcb hlm
      (try dsimp only)
      (try simp only [Act.put, nA, nB, nC])
      clear hHeld
      refine hK.out _ _ ?_ (fun hHeld => ?_)
      · exact ⟨HS.out.ex0, HS.out.ex2⟩
      clear hK K
      (try simp only [Act.put, nA, nB, nC])
      refine wpAnyM_one 16 rfl (by kernel_rfl) (fun K hK => ?_)
      refine if_pos_of rfl ?_; refine wp_of_run (run_store_row 41 (.tmp 10) (.tmp 44) rfl _ rfl rfl HA.out.1 iv3) ?_
      refine hK.out _ _ (.inl (by kernel_rfl)) (fun _ => ?_)
      clear hK K
      (try simp only [Act.put, nA, nB, nC])
      refine wpAnyM_done (by kernel_rfl) ?_ _
      (go_wp2_with fail; go_meet; exact ⟨_, rfl, Lib.hid (HS.out.put HA.out.1 HA.out.2 NN)⟩)
  case rest =>
  obtain ⟨nb, rfl, HB⟩ := hcut
  clear HS AC GC NC
  have d0 := HB.out.ex3.cell (i := 0) (by decide)
  rw [HDT.out] at d0
  go_upto_region 7 with (go_at_call 20; (refine (FC.out _ HB.out.cell HB.out.free).mono ?_); rintro e w10 ⟨rfl, hu⟩; have HT := Lib.hid (HB.out.upd' hu); clear hu FC d0 HB)
  have HS := Lib.hid HT.out.drew
  clear HT
  (try simp only [Act.put])
  go_cut [12] from 49 to 61 (fun s12 wx => ∃ b, s12 = .pointer (some ⟨b, 0, none⟩) ∧ Hid (TsR c Hb KS I [⟨b, 41, 3, YY⟩, ⟨nb, 41, 3, NN⟩, ⟨vb, 41, 3, VV⟩, ⟨qb, 40, 4, QU⟩, ⟨pb, 64, 20, PP⟩] (b + 1) w wx))
  case first =>
    refine wp_region_M (fun w' => Blk w' w.heap.size 30 24 KS ∧ Blk w' vb 41 3 VV ∧ Blk w' nb 41 3 NN) 14 (by kernel_rfl) ?_ (fun hHeld => ?_)
    · exact ⟨HS.out.s, HS.out.ex1, HS.out.ex0⟩
    refine wpAnyM_take 0 (v := ?_) rfl (by kernel_rfl) (fun _ _ _ h => h) (Or.inl ⟨by rfl, ?_⟩) (by assumption) ?_
    rotate_left
    · (intro wx hSw; (try dsimp only at hSw); go_simp; (try with_reducible rfl))
    (try simp only [Act.put, nA, nB, nC])
    refine wpAnyM_take 1 (v := ?_) rfl (by kernel_rfl) (fun _ _ _ h => h) (Or.inl ⟨by rfl, ?_⟩) (by assumption) ?_
    rotate_left
    · (intro wx hSw; refine Eq.trans (run_load_row 30 (.tmp 4) (by rfl) (w.heap.size) (by rfl) _ _ _ _ (hSw.1) Try.underlying30 rfl (ist.trans (by rw [arrv_size]))) ?_; with_reducible rfl)
    (try simp only [Act.put, nA, nB, nC])
    refine wpAnyM_take 3 (v := ?_) rfl (by kernel_rfl) (fun _ _ _ h => h) (Or.inl ⟨by rfl, ?_⟩) (by assumption) ?_
    rotate_left
    · (intro wx hSw; (try dsimp only at hSw); go_simp; (try with_reducible rfl))
    (try simp only [Act.put, nA, nB, nC])
    refine wpAnyM_take 4 (v := ?_) rfl (by kernel_rfl) (fun _ _ _ h => h) (Or.inl ⟨by rfl, ?_⟩) (by assumption) ?_
    rotate_left
    · (intro wx hSw; (try dsimp only at hSw); go_simp; (try with_reducible rfl))
    (try simp only [Act.put, nA, nB, nC])
    refine wpAnyM_take 5 (v := ?_) rfl (by kernel_rfl) (fun _ _ _ h => h) (Or.inl ⟨by rfl, ?_⟩) (by assumption) ?_
    rotate_left
    · (intro wx hSw; refine Eq.trans (run_load_row 41 (.tmp 9) (by rfl) (vb) (by rfl) _ _ _ _ (hSw.2.1) Try.underlying41 rfl (iv3.trans (by rw [arrv_size]))) ?_; with_reducible rfl)
    (try simp only [Act.put, nA, nB, nC])
    refine wpAnyM_take 6 (v := ?_) rfl (by kernel_rfl) (fun _ _ _ h => h) (Or.inl ⟨by rfl, ?_⟩) (by assumption) ?_
    rotate_left
    · (intro wx hSw; refine Eq.trans (run_load_row 41 (.tmp 10) (by rfl) (nb) (by rfl) _ _ _ _ (hSw.2.2) Try.underlying41 rfl (iv3.trans (by rw [arrv_size]))) ?_; with_reducible rfl)
    (try simp only [Act.put, nA, nB, nC])
    refine wpAnyM_take 9 (v := ?_) rfl (by kernel_rfl) (fun _ _ _ h => h) (Or.inl ⟨by rfl, ?_⟩) (by assumption) ?_
    rotate_left
    · (intro wx hSw; (try dsimp only at hSw); go_simp; (try with_reducible rfl))
    (try simp only [Act.put, nA, nB, nC])
    refine wpAnyM_threeS 2 7 13 rfl rfl rfl (by kernel_rfl) (fun K hK => ?_) (fun K hK => ?_) (fun K hK => ?_)
    · go_simp
      (refine (part_any KS 7 _ (by decide) (by decide)).mono ?_); (rw [HV.out.2]); rintro e w11 ⟨rfl, hb⟩; have HS2 := Lib.hid (HS.out.down hb); clear HS; have HS := HS2; clear HS2; (try (have HA2 := Lib.hid (And.intro (HA.out.1.below hb) HA.out.2); clear HA; have HA := HA2; clear HA2)); (try (have HL2 := Lib.hid (HL.out.below hb); clear HL; have HL := HL2; clear HL2)); (try (have HM2 := Lib.hid (HM.out.below hb); clear HM; have HM := HM2; clear HM2)); clear hb
      (try dsimp only)
      (try simp only [Act.put, nA, nB, nC])
      clear hHeld
      refine hK.out _ _ ?_ (fun hHeld => ?_)
      · exact ⟨HS.out.s, HS.out.ex1, HS.out.ex0⟩
      clear hK K
      (try simp only [Act.put, nA, nB, nC])
      refine wpAnyM_twoS 7 13 rfl rfl (by kernel_rfl) (fun K hK => ?_) (fun K hK => ?_)
      · refine if_pos_of (by rfl) (wp_bslv2 (.tmp 54) (.tmp 55) rfl rfl rfl ?_); have HT := Lib.hid (ts_sl2 HS.out (v2L VV NN) _ (by first | (simp; rfl) | rfl)); clear HS; have HS := Lib.hid HT.out.1; have HL := Lib.hid HT.out.2; clear HT; (try (have HA2 := Lib.hid (And.intro (HA.out.1.alloc (.cells (arrv 6 (sideV (v2L VV NN))) 41)) HA.out.2); clear HA; have HA := HA2; clear HA2))
        clear hHeld
        refine hK.out _ _ ?_ (fun hHeld => ?_)
        · exact ⟨HS.out.s, HS.out.ex1, HS.out.ex0⟩
        clear hK K
        (try simp only [Act.put, nA, nB, nC])
        refine wpAnyM_twoS 8 13 rfl rfl (by kernel_rfl) (fun K hK => ?_) (fun K hK => ?_)
        · go_simp
          (refine (MC.out _ _ HS.out.cell HS.out.free HL.out).mono ?_); rintro e w12 ⟨rfl, hu⟩; clear HL; have hcl := HS.out.cell; have hcb := HS.out.cb; have hlm := HS.out.lim; have HS2 := Lib.hid (HS.out.upd' hu); clear HS; have HS := HS2; clear HS2; (try (have HA2 := Lib.hid (And.intro (HA.out.1.upd hu (by have := HA.out.2; omega)) HA.out.2); clear HA; have HA := HA2; clear HA2)); (try (have HL2 := Lib.hid (HL.out.upd hcl hu); clear HL; have HL := HL2; clear HL2)); (try (have HM2 := Lib.hid (HM.out.upd hcl hu); clear HM; have HM := HM2; clear HM2)); clear hu hcl hcb hlm
          (try dsimp only)
          (try simp only [Act.put, nA, nB, nC])
          clear hHeld
          refine hK.out _ _ ?_ (fun hHeld => ?_)
          · exact ⟨HS.out.s, HS.out.ex1, HS.out.ex0⟩
          clear hK K
          (try simp only [Act.put, nA, nB, nC])
          refine wpAnyM_twoS 10 13 rfl rfl (by kernel_rfl) (fun K hK => ?_) (fun K hK => ?_)
          · go_simp
            (refine (LC.out _ HS.out.cell HS.out.free).mono ?_); rintro e w13 ⟨rfl, hu⟩; have hcl := HS.out.cell; have hcb := HS.out.cb; have hlm := HS.out.lim; have HS2 := Lib.hid (HS.out.upd' hu); clear HS; have HS := HS2; clear HS2; (try (have HA2 := Lib.hid (And.intro (HA.out.1.upd hu (by have := HA.out.2; omega)) HA.out.2); clear HA; have HA := HA2; clear HA2)); (try (have HL2 := Lib.hid (HL.out.upd hcl hu); clear HL; have HL := HL2; clear HL2)); (try (have HM2 := Lib.hid (HM.out.upd hcl hu); clear HM; have HM := HM2; clear HM2)); clear hu hcl hcb hlm
            (try dsimp only)
            (try simp only [Act.put, nA, nB, nC])
            clear hHeld
            refine hK.out _ _ ?_ (fun hHeld => ?_)
            · exact ⟨HS.out.s, HS.out.ex1, HS.out.ex0⟩
            clear hK K
            (try simp only [Act.put, nA, nB, nC])
            refine wpAnyM_twoS 11 13 rfl rfl (by kernel_rfl) (fun K hK => ?_) (fun K hK => ?_)
            · refine if_pos_of (by rfl) (wp_bslv2 (.tmp 51) (.tmp 59) rfl rfl rfl ?_); have HT := Lib.hid (ts_sl2 HS.out (v2L XX LL) _ (by first | (simp; rfl) | rfl)); clear HS; have HS := Lib.hid HT.out.1; have HM := Lib.hid HT.out.2; clear HT; (try (have HA2 := Lib.hid (And.intro (HA.out.1.alloc (.cells (arrv 6 (sideV (v2L XX LL))) 41)) HA.out.2); clear HA; have HA := HA2; clear HA2))
              clear hHeld
              refine hK.out _ _ ?_ (fun hHeld => ?_)
              · exact ⟨HS.out.s, HS.out.ex1, HS.out.ex0⟩
              clear hK K
              (try simp only [Act.put, nA, nB, nC])
              refine wpAnyM_twoS 12 13 rfl rfl (by kernel_rfl) (fun K hK => ?_) (fun K hK => ?_)
              · go_simp
                (refine (XC.out _ _ HS.out.cell HS.out.free HM.out).mono ?_); rintro e w14 ⟨rfl, hu⟩; clear HM; have hcl := HS.out.cell; have hcb := HS.out.cb; have hlm := HS.out.lim; have HS2 := Lib.hid (HS.out.upd' hu); clear HS; have HS := HS2; clear HS2; (try (have HA2 := Lib.hid (And.intro (HA.out.1.upd hu (by have := HA.out.2; omega)) HA.out.2); clear HA; have HA := HA2; clear HA2)); (try (have HL2 := Lib.hid (HL.out.upd hcl hu); clear HL; have HL := HL2; clear HL2)); (try (have HM2 := Lib.hid (HM.out.upd hcl hu); clear HM; have HM := HM2; clear HM2)); clear hu hcl hcb hlm
                (try dsimp only)
                (try simp only [Act.put, nA, nB, nC])
                clear hHeld
                refine hK.out _ _ ?_ (fun hHeld => ?_)
                · exact ⟨HS.out.s, HS.out.ex1, HS.out.ex0⟩
                clear hK K
                (try simp only [Act.put, nA, nB, nC])
                refine wpAnyM_oneS 13 rfl (by kernel_rfl) (fun K hK => ?_)
                go_simp; have HA := Lib.hid (ts_new3 HS.out _ (by first | (simp; rfl) | rfl)); have HS2 := Lib.hid (HS.out.alloc (.cells #[.int .i64 0, .int .i64 0, .int .i64 0] 41)); clear HS; have HS := HS2; clear HS2; (try (have HL2 := Lib.hid (HL.out.below (Below.alloc (Below.refl _ _) (Nat.le_refl _) (.cells #[.int .i64 0, .int .i64 0, .int .i64 0] 41))); clear HL; have HL := HL2; clear HL2)); (try (have HM2 := Lib.hid (HM.out.below (Below.alloc (Below.refl _ _) (Nat.le_refl _) (.cells #[.int .i64 0, .int .i64 0, .int .i64 0] 41))); clear HM; have HM := HM2; clear HM2))
                clear hHeld
                refine hK.out _ _ ?_ (fun hHeld => ?_)
                · exact ⟨HS.out.s, HS.out.ex1, HS.out.ex0⟩
                clear hK K
                (try simp only [Act.put, nA, nB, nC])
                refine wpAnyM_one 14 rfl (by kernel_rfl) (fun K hK => ?_)
                refine if_pos_of rfl ?_; refine wp_of_run (run_store_row 41 (.tmp 12) (.tmp 61) rfl _ rfl rfl HA.out.1 iv3) ?_
                refine hK.out _ _ (.inl (by kernel_rfl)) (fun _ => ?_)
                clear hK K
                (try simp only [Act.put, nA, nB, nC])
                refine wpAnyM_done (by kernel_rfl) ?_ _
                (go_wp2_with fail; go_meet; exact ⟨_, rfl, Lib.hid (HS.out.put HA.out.1 HA.out.2 YY)⟩)
              · go_simp; have HA := Lib.hid (ts_new3 HS.out _ (by first | (simp; rfl) | rfl)); have HS2 := Lib.hid (HS.out.alloc (.cells #[.int .i64 0, .int .i64 0, .int .i64 0] 41)); clear HS; have HS := HS2; clear HS2; (try (have HL2 := Lib.hid (HL.out.below (Below.alloc (Below.refl _ _) (Nat.le_refl _) (.cells #[.int .i64 0, .int .i64 0, .int .i64 0] 41))); clear HL; have HL := HL2; clear HL2)); (try (have HM2 := Lib.hid (HM.out.below (Below.alloc (Below.refl _ _) (Nat.le_refl _) (.cells #[.int .i64 0, .int .i64 0, .int .i64 0] 41))); clear HM; have HM := HM2; clear HM2))
                clear hHeld
                refine hK.out _ _ ?_ (fun hHeld => ?_)
                · exact ⟨HS.out.s, HS.out.ex1, HS.out.ex0⟩
                clear hK K
                (try simp only [Act.put, nA, nB, nC])
                refine wpAnyM_oneS 12 rfl (by kernel_rfl) (fun K hK => ?_)
                go_simp
                (refine (XC.out _ _ HS.out.cell HS.out.free HM.out).mono ?_); rintro e w14 ⟨rfl, hu⟩; clear HM; have hcl := HS.out.cell; have hcb := HS.out.cb; have hlm := HS.out.lim; have HS2 := Lib.hid (HS.out.upd' hu); clear HS; have HS := HS2; clear HS2; (try (have HA2 := Lib.hid (And.intro (HA.out.1.upd hu (by have := HA.out.2; omega)) HA.out.2); clear HA; have HA := HA2; clear HA2)); (try (have HL2 := Lib.hid (HL.out.upd hcl hu); clear HL; have HL := HL2; clear HL2)); (try (have HM2 := Lib.hid (HM.out.upd hcl hu); clear HM; have HM := HM2; clear HM2)); clear hu hcl hcb hlm
                (try dsimp only)
                (try simp only [Act.put, nA, nB, nC])
                clear hHeld
                refine hK.out _ _ ?_ (fun hHeld => ?_)
                · exact ⟨HS.out.s, HS.out.ex1, HS.out.ex0⟩
                clear hK K
                (try simp only [Act.put, nA, nB, nC])
                refine wpAnyM_one 14 rfl (by kernel_rfl) (fun K hK => ?_)
                refine if_pos_of rfl ?_; refine wp_of_run (run_store_row 41 (.tmp 12) (.tmp 61) rfl _ rfl rfl HA.out.1 iv3) ?_
                refine hK.out _ _ (.inl (by kernel_rfl)) (fun _ => ?_)
                clear hK K
                (try simp only [Act.put, nA, nB, nC])
                refine wpAnyM_done (by kernel_rfl) ?_ _
                (go_wp2_with fail; go_meet; exact ⟨_, rfl, Lib.hid (HS.out.put HA.out.1 HA.out.2 YY)⟩)
            · go_simp; have HA := Lib.hid (ts_new3 HS.out _ (by first | (simp; rfl) | rfl)); have HS2 := Lib.hid (HS.out.alloc (.cells #[.int .i64 0, .int .i64 0, .int .i64 0] 41)); clear HS; have HS := HS2; clear HS2; (try (have HL2 := Lib.hid (HL.out.below (Below.alloc (Below.refl _ _) (Nat.le_refl _) (.cells #[.int .i64 0, .int .i64 0, .int .i64 0] 41))); clear HL; have HL := HL2; clear HL2)); (try (have HM2 := Lib.hid (HM.out.below (Below.alloc (Below.refl _ _) (Nat.le_refl _) (.cells #[.int .i64 0, .int .i64 0, .int .i64 0] 41))); clear HM; have HM := HM2; clear HM2))
              clear hHeld
              refine hK.out _ _ ?_ (fun hHeld => ?_)
              · exact ⟨HS.out.s, HS.out.ex1, HS.out.ex0⟩
              clear hK K
              (try simp only [Act.put, nA, nB, nC])
              refine wpAnyM_oneS 11 rfl (by kernel_rfl) (fun K hK => ?_)
              refine if_pos_of (by rfl) (wp_bslv2 (.tmp 51) (.tmp 59) rfl rfl rfl ?_); have HT := Lib.hid (ts_sl2 HS.out (v2L XX LL) _ (by first | (simp; rfl) | rfl)); clear HS; have HS := Lib.hid HT.out.1; have HM := Lib.hid HT.out.2; clear HT; (try (have HA2 := Lib.hid (And.intro (HA.out.1.alloc (.cells (arrv 6 (sideV (v2L XX LL))) 41)) HA.out.2); clear HA; have HA := HA2; clear HA2))
              clear hHeld
              refine hK.out _ _ ?_ (fun hHeld => ?_)
              · exact ⟨HS.out.s, HS.out.ex1, HS.out.ex0⟩
              clear hK K
              (try simp only [Act.put, nA, nB, nC])
              refine wpAnyM_oneS 12 rfl (by kernel_rfl) (fun K hK => ?_)
              go_simp
              (refine (XC.out _ _ HS.out.cell HS.out.free HM.out).mono ?_); rintro e w14 ⟨rfl, hu⟩; clear HM; have hcl := HS.out.cell; have hcb := HS.out.cb; have hlm := HS.out.lim; have HS2 := Lib.hid (HS.out.upd' hu); clear HS; have HS := HS2; clear HS2; (try (have HA2 := Lib.hid (And.intro (HA.out.1.upd hu (by have := HA.out.2; omega)) HA.out.2); clear HA; have HA := HA2; clear HA2)); (try (have HL2 := Lib.hid (HL.out.upd hcl hu); clear HL; have HL := HL2; clear HL2)); (try (have HM2 := Lib.hid (HM.out.upd hcl hu); clear HM; have HM := HM2; clear HM2)); clear hu hcl hcb hlm
              (try dsimp only)
              (try simp only [Act.put, nA, nB, nC])
              clear hHeld
              refine hK.out _ _ ?_ (fun hHeld => ?_)
              · exact ⟨HS.out.s, HS.out.ex1, HS.out.ex0⟩
              clear hK K
              (try simp only [Act.put, nA, nB, nC])
              refine wpAnyM_one 14 rfl (by kernel_rfl) (fun K hK => ?_)
              refine if_pos_of rfl ?_; refine wp_of_run (run_store_row 41 (.tmp 12) (.tmp 61) rfl _ rfl rfl HA.out.1 iv3) ?_
              refine hK.out _ _ (.inl (by kernel_rfl)) (fun _ => ?_)
              clear hK K
              (try simp only [Act.put, nA, nB, nC])
              refine wpAnyM_done (by kernel_rfl) ?_ _
              (go_wp2_with fail; go_meet; exact ⟨_, rfl, Lib.hid (HS.out.put HA.out.1 HA.out.2 YY)⟩)
          · go_simp; have HA := Lib.hid (ts_new3 HS.out _ (by first | (simp; rfl) | rfl)); have HS2 := Lib.hid (HS.out.alloc (.cells #[.int .i64 0, .int .i64 0, .int .i64 0] 41)); clear HS; have HS := HS2; clear HS2; (try (have HL2 := Lib.hid (HL.out.below (Below.alloc (Below.refl _ _) (Nat.le_refl _) (.cells #[.int .i64 0, .int .i64 0, .int .i64 0] 41))); clear HL; have HL := HL2; clear HL2)); (try (have HM2 := Lib.hid (HM.out.below (Below.alloc (Below.refl _ _) (Nat.le_refl _) (.cells #[.int .i64 0, .int .i64 0, .int .i64 0] 41))); clear HM; have HM := HM2; clear HM2))
            clear hHeld
            refine hK.out _ _ ?_ (fun hHeld => ?_)
            · exact ⟨HS.out.s, HS.out.ex1, HS.out.ex0⟩
            clear hK K
            (try simp only [Act.put, nA, nB, nC])
            refine wpAnyM_oneS 10 rfl (by kernel_rfl) (fun K hK => ?_)
            go_simp
            (refine (LC.out _ HS.out.cell HS.out.free).mono ?_); rintro e w13 ⟨rfl, hu⟩; have hcl := HS.out.cell; have hcb := HS.out.cb; have hlm := HS.out.lim; have HS2 := Lib.hid (HS.out.upd' hu); clear HS; have HS := HS2; clear HS2; (try (have HA2 := Lib.hid (And.intro (HA.out.1.upd hu (by have := HA.out.2; omega)) HA.out.2); clear HA; have HA := HA2; clear HA2)); (try (have HL2 := Lib.hid (HL.out.upd hcl hu); clear HL; have HL := HL2; clear HL2)); (try (have HM2 := Lib.hid (HM.out.upd hcl hu); clear HM; have HM := HM2; clear HM2)); clear hu hcl hcb hlm
            (try dsimp only)
            (try simp only [Act.put, nA, nB, nC])
            clear hHeld
            refine hK.out _ _ ?_ (fun hHeld => ?_)
            · exact ⟨HS.out.s, HS.out.ex1, HS.out.ex0⟩
            clear hK K
            (try simp only [Act.put, nA, nB, nC])
            refine wpAnyM_oneS 11 rfl (by kernel_rfl) (fun K hK => ?_)
            refine if_pos_of (by rfl) (wp_bslv2 (.tmp 51) (.tmp 59) rfl rfl rfl ?_); have HT := Lib.hid (ts_sl2 HS.out (v2L XX LL) _ (by first | (simp; rfl) | rfl)); clear HS; have HS := Lib.hid HT.out.1; have HM := Lib.hid HT.out.2; clear HT; (try (have HA2 := Lib.hid (And.intro (HA.out.1.alloc (.cells (arrv 6 (sideV (v2L XX LL))) 41)) HA.out.2); clear HA; have HA := HA2; clear HA2))
            clear hHeld
            refine hK.out _ _ ?_ (fun hHeld => ?_)
            · exact ⟨HS.out.s, HS.out.ex1, HS.out.ex0⟩
            clear hK K
            (try simp only [Act.put, nA, nB, nC])
            refine wpAnyM_oneS 12 rfl (by kernel_rfl) (fun K hK => ?_)
            go_simp
            (refine (XC.out _ _ HS.out.cell HS.out.free HM.out).mono ?_); rintro e w14 ⟨rfl, hu⟩; clear HM; have hcl := HS.out.cell; have hcb := HS.out.cb; have hlm := HS.out.lim; have HS2 := Lib.hid (HS.out.upd' hu); clear HS; have HS := HS2; clear HS2; (try (have HA2 := Lib.hid (And.intro (HA.out.1.upd hu (by have := HA.out.2; omega)) HA.out.2); clear HA; have HA := HA2; clear HA2)); (try (have HL2 := Lib.hid (HL.out.upd hcl hu); clear HL; have HL := HL2; clear HL2)); (try (have HM2 := Lib.hid (HM.out.upd hcl hu); clear HM; have HM := HM2; clear HM2)); clear hu hcl hcb hlm
            (try dsimp only)
            (try simp only [Act.put, nA, nB, nC])
            clear hHeld
            refine hK.out _ _ ?_ (fun hHeld => ?_)
            · exact ⟨HS.out.s, HS.out.ex1, HS.out.ex0⟩
            clear hK K
            (try simp only [Act.put, nA, nB, nC])
            refine wpAnyM_one 14 rfl (by kernel_rfl) (fun K hK => ?_)
            refine if_pos_of rfl ?_; refine wp_of_run (run_store_row 41 (.tmp 12) (.tmp 61) rfl _ rfl rfl HA.out.1 iv3) ?_
            refine hK.out _ _ (.inl (by kernel_rfl)) (fun _ => ?_)
            clear hK K
            (try simp only [Act.put, nA, nB, nC])
            refine wpAnyM_done (by kernel_rfl) ?_ _
            (go_wp2_with fail; go_meet; exact ⟨_, rfl, Lib.hid (HS.out.put HA.out.1 HA.out.2 YY)⟩)
        · go_simp; have HA := Lib.hid (ts_new3 HS.out _ (by first | (simp; rfl) | rfl)); have HS2 := Lib.hid (HS.out.alloc (.cells #[.int .i64 0, .int .i64 0, .int .i64 0] 41)); clear HS; have HS := HS2; clear HS2; (try (have HL2 := Lib.hid (HL.out.below (Below.alloc (Below.refl _ _) (Nat.le_refl _) (.cells #[.int .i64 0, .int .i64 0, .int .i64 0] 41))); clear HL; have HL := HL2; clear HL2)); (try (have HM2 := Lib.hid (HM.out.below (Below.alloc (Below.refl _ _) (Nat.le_refl _) (.cells #[.int .i64 0, .int .i64 0, .int .i64 0] 41))); clear HM; have HM := HM2; clear HM2))
          clear hHeld
          refine hK.out _ _ ?_ (fun hHeld => ?_)
          · exact ⟨HS.out.s, HS.out.ex1, HS.out.ex0⟩
          clear hK K
          (try simp only [Act.put, nA, nB, nC])
          refine wpAnyM_oneS 8 rfl (by kernel_rfl) (fun K hK => ?_)
          go_simp
          (refine (MC.out _ _ HS.out.cell HS.out.free HL.out).mono ?_); rintro e w12 ⟨rfl, hu⟩; clear HL; have hcl := HS.out.cell; have hcb := HS.out.cb; have hlm := HS.out.lim; have HS2 := Lib.hid (HS.out.upd' hu); clear HS; have HS := HS2; clear HS2; (try (have HA2 := Lib.hid (And.intro (HA.out.1.upd hu (by have := HA.out.2; omega)) HA.out.2); clear HA; have HA := HA2; clear HA2)); (try (have HL2 := Lib.hid (HL.out.upd hcl hu); clear HL; have HL := HL2; clear HL2)); (try (have HM2 := Lib.hid (HM.out.upd hcl hu); clear HM; have HM := HM2; clear HM2)); clear hu hcl hcb hlm
          (try dsimp only)
          (try simp only [Act.put, nA, nB, nC])
          clear hHeld
          refine hK.out _ _ ?_ (fun hHeld => ?_)
          · exact ⟨HS.out.s, HS.out.ex1, HS.out.ex0⟩
          clear hK K
          (try simp only [Act.put, nA, nB, nC])
          refine wpAnyM_oneS 10 rfl (by kernel_rfl) (fun K hK => ?_)
          go_simp
          (refine (LC.out _ HS.out.cell HS.out.free).mono ?_); rintro e w13 ⟨rfl, hu⟩; have hcl := HS.out.cell; have hcb := HS.out.cb; have hlm := HS.out.lim; have HS2 := Lib.hid (HS.out.upd' hu); clear HS; have HS := HS2; clear HS2; (try (have HA2 := Lib.hid (And.intro (HA.out.1.upd hu (by have := HA.out.2; omega)) HA.out.2); clear HA; have HA := HA2; clear HA2)); (try (have HL2 := Lib.hid (HL.out.upd hcl hu); clear HL; have HL := HL2; clear HL2)); (try (have HM2 := Lib.hid (HM.out.upd hcl hu); clear HM; have HM := HM2; clear HM2)); clear hu hcl hcb hlm
          (try dsimp only)
          (try simp only [Act.put, nA, nB, nC])
          clear hHeld
          refine hK.out _ _ ?_ (fun hHeld => ?_)
          · exact ⟨HS.out.s, HS.out.ex1, HS.out.ex0⟩
          clear hK K
          (try simp only [Act.put, nA, nB, nC])
          refine wpAnyM_oneS 11 rfl (by kernel_rfl) (fun K hK => ?_)
          refine if_pos_of (by rfl) (wp_bslv2 (.tmp 51) (.tmp 59) rfl rfl rfl ?_); have HT := Lib.hid (ts_sl2 HS.out (v2L XX LL) _ (by first | (simp; rfl) | rfl)); clear HS; have HS := Lib.hid HT.out.1; have HM := Lib.hid HT.out.2; clear HT; (try (have HA2 := Lib.hid (And.intro (HA.out.1.alloc (.cells (arrv 6 (sideV (v2L XX LL))) 41)) HA.out.2); clear HA; have HA := HA2; clear HA2))
          clear hHeld
          refine hK.out _ _ ?_ (fun hHeld => ?_)
          · exact ⟨HS.out.s, HS.out.ex1, HS.out.ex0⟩
          clear hK K
          (try simp only [Act.put, nA, nB, nC])
          refine wpAnyM_oneS 12 rfl (by kernel_rfl) (fun K hK => ?_)
          go_simp
          (refine (XC.out _ _ HS.out.cell HS.out.free HM.out).mono ?_); rintro e w14 ⟨rfl, hu⟩; clear HM; have hcl := HS.out.cell; have hcb := HS.out.cb; have hlm := HS.out.lim; have HS2 := Lib.hid (HS.out.upd' hu); clear HS; have HS := HS2; clear HS2; (try (have HA2 := Lib.hid (And.intro (HA.out.1.upd hu (by have := HA.out.2; omega)) HA.out.2); clear HA; have HA := HA2; clear HA2)); (try (have HL2 := Lib.hid (HL.out.upd hcl hu); clear HL; have HL := HL2; clear HL2)); (try (have HM2 := Lib.hid (HM.out.upd hcl hu); clear HM; have HM := HM2; clear HM2)); clear hu hcl hcb hlm
          (try dsimp only)
          (try simp only [Act.put, nA, nB, nC])
          clear hHeld
          refine hK.out _ _ ?_ (fun hHeld => ?_)
          · exact ⟨HS.out.s, HS.out.ex1, HS.out.ex0⟩
          clear hK K
          (try simp only [Act.put, nA, nB, nC])
          refine wpAnyM_one 14 rfl (by kernel_rfl) (fun K hK => ?_)
          refine if_pos_of rfl ?_; refine wp_of_run (run_store_row 41 (.tmp 12) (.tmp 61) rfl _ rfl rfl HA.out.1 iv3) ?_
          refine hK.out _ _ (.inl (by kernel_rfl)) (fun _ => ?_)
          clear hK K
          (try simp only [Act.put, nA, nB, nC])
          refine wpAnyM_done (by kernel_rfl) ?_ _
          (go_wp2_with fail; go_meet; exact ⟨_, rfl, Lib.hid (HS.out.put HA.out.1 HA.out.2 YY)⟩)
      · go_simp; have HA := Lib.hid (ts_new3 HS.out _ (by first | (simp; rfl) | rfl)); have HS2 := Lib.hid (HS.out.alloc (.cells #[.int .i64 0, .int .i64 0, .int .i64 0] 41)); clear HS; have HS := HS2; clear HS2; (try (have HL2 := Lib.hid (HL.out.below (Below.alloc (Below.refl _ _) (Nat.le_refl _) (.cells #[.int .i64 0, .int .i64 0, .int .i64 0] 41))); clear HL; have HL := HL2; clear HL2)); (try (have HM2 := Lib.hid (HM.out.below (Below.alloc (Below.refl _ _) (Nat.le_refl _) (.cells #[.int .i64 0, .int .i64 0, .int .i64 0] 41))); clear HM; have HM := HM2; clear HM2))
        clear hHeld
        refine hK.out _ _ ?_ (fun hHeld => ?_)
        · exact ⟨HS.out.s, HS.out.ex1, HS.out.ex0⟩
        clear hK K
        (try simp only [Act.put, nA, nB, nC])
        refine wpAnyM_oneS 7 rfl (by kernel_rfl) (fun K hK => ?_)
        refine if_pos_of (by rfl) (wp_bslv2 (.tmp 54) (.tmp 55) rfl rfl rfl ?_); have HT := Lib.hid (ts_sl2 HS.out (v2L VV NN) _ (by first | (simp; rfl) | rfl)); clear HS; have HS := Lib.hid HT.out.1; have HL := Lib.hid HT.out.2; clear HT; (try (have HA2 := Lib.hid (And.intro (HA.out.1.alloc (.cells (arrv 6 (sideV (v2L VV NN))) 41)) HA.out.2); clear HA; have HA := HA2; clear HA2))
        clear hHeld
        refine hK.out _ _ ?_ (fun hHeld => ?_)
        · exact ⟨HS.out.s, HS.out.ex1, HS.out.ex0⟩
        clear hK K
        (try simp only [Act.put, nA, nB, nC])
        refine wpAnyM_oneS 8 rfl (by kernel_rfl) (fun K hK => ?_)
        go_simp
        (refine (MC.out _ _ HS.out.cell HS.out.free HL.out).mono ?_); rintro e w12 ⟨rfl, hu⟩; clear HL; have hcl := HS.out.cell; have hcb := HS.out.cb; have hlm := HS.out.lim; have HS2 := Lib.hid (HS.out.upd' hu); clear HS; have HS := HS2; clear HS2; (try (have HA2 := Lib.hid (And.intro (HA.out.1.upd hu (by have := HA.out.2; omega)) HA.out.2); clear HA; have HA := HA2; clear HA2)); (try (have HL2 := Lib.hid (HL.out.upd hcl hu); clear HL; have HL := HL2; clear HL2)); (try (have HM2 := Lib.hid (HM.out.upd hcl hu); clear HM; have HM := HM2; clear HM2)); clear hu hcl hcb hlm
        (try dsimp only)
        (try simp only [Act.put, nA, nB, nC])
        clear hHeld
        refine hK.out _ _ ?_ (fun hHeld => ?_)
        · exact ⟨HS.out.s, HS.out.ex1, HS.out.ex0⟩
        clear hK K
        (try simp only [Act.put, nA, nB, nC])
        refine wpAnyM_oneS 10 rfl (by kernel_rfl) (fun K hK => ?_)
        go_simp
        (refine (LC.out _ HS.out.cell HS.out.free).mono ?_); rintro e w13 ⟨rfl, hu⟩; have hcl := HS.out.cell; have hcb := HS.out.cb; have hlm := HS.out.lim; have HS2 := Lib.hid (HS.out.upd' hu); clear HS; have HS := HS2; clear HS2; (try (have HA2 := Lib.hid (And.intro (HA.out.1.upd hu (by have := HA.out.2; omega)) HA.out.2); clear HA; have HA := HA2; clear HA2)); (try (have HL2 := Lib.hid (HL.out.upd hcl hu); clear HL; have HL := HL2; clear HL2)); (try (have HM2 := Lib.hid (HM.out.upd hcl hu); clear HM; have HM := HM2; clear HM2)); clear hu hcl hcb hlm
        (try dsimp only)
        (try simp only [Act.put, nA, nB, nC])
        clear hHeld
        refine hK.out _ _ ?_ (fun hHeld => ?_)
        · exact ⟨HS.out.s, HS.out.ex1, HS.out.ex0⟩
        clear hK K
        (try simp only [Act.put, nA, nB, nC])
        refine wpAnyM_oneS 11 rfl (by kernel_rfl) (fun K hK => ?_)
        refine if_pos_of (by rfl) (wp_bslv2 (.tmp 51) (.tmp 59) rfl rfl rfl ?_); have HT := Lib.hid (ts_sl2 HS.out (v2L XX LL) _ (by first | (simp; rfl) | rfl)); clear HS; have HS := Lib.hid HT.out.1; have HM := Lib.hid HT.out.2; clear HT; (try (have HA2 := Lib.hid (And.intro (HA.out.1.alloc (.cells (arrv 6 (sideV (v2L XX LL))) 41)) HA.out.2); clear HA; have HA := HA2; clear HA2))
        clear hHeld
        refine hK.out _ _ ?_ (fun hHeld => ?_)
        · exact ⟨HS.out.s, HS.out.ex1, HS.out.ex0⟩
        clear hK K
        (try simp only [Act.put, nA, nB, nC])
        refine wpAnyM_oneS 12 rfl (by kernel_rfl) (fun K hK => ?_)
        go_simp
        (refine (XC.out _ _ HS.out.cell HS.out.free HM.out).mono ?_); rintro e w14 ⟨rfl, hu⟩; clear HM; have hcl := HS.out.cell; have hcb := HS.out.cb; have hlm := HS.out.lim; have HS2 := Lib.hid (HS.out.upd' hu); clear HS; have HS := HS2; clear HS2; (try (have HA2 := Lib.hid (And.intro (HA.out.1.upd hu (by have := HA.out.2; omega)) HA.out.2); clear HA; have HA := HA2; clear HA2)); (try (have HL2 := Lib.hid (HL.out.upd hcl hu); clear HL; have HL := HL2; clear HL2)); (try (have HM2 := Lib.hid (HM.out.upd hcl hu); clear HM; have HM := HM2; clear HM2)); clear hu hcl hcb hlm
        (try dsimp only)
        (try simp only [Act.put, nA, nB, nC])
        clear hHeld
        refine hK.out _ _ ?_ (fun hHeld => ?_)
        · exact ⟨HS.out.s, HS.out.ex1, HS.out.ex0⟩
        clear hK K
        (try simp only [Act.put, nA, nB, nC])
        refine wpAnyM_one 14 rfl (by kernel_rfl) (fun K hK => ?_)
        refine if_pos_of rfl ?_; refine wp_of_run (run_store_row 41 (.tmp 12) (.tmp 61) rfl _ rfl rfl HA.out.1 iv3) ?_
        refine hK.out _ _ (.inl (by kernel_rfl)) (fun _ => ?_)
        clear hK K
        (try simp only [Act.put, nA, nB, nC])
        refine wpAnyM_done (by kernel_rfl) ?_ _
        (go_wp2_with fail; go_meet; exact ⟨_, rfl, Lib.hid (HS.out.put HA.out.1 HA.out.2 YY)⟩)
    · refine if_pos_of (by rfl) (wp_bslv2 (.tmp 54) (.tmp 55) rfl rfl rfl ?_); have HT := Lib.hid (ts_sl2 HS.out (v2L VV NN) _ (by first | (simp; rfl) | rfl)); clear HS; have HS := Lib.hid HT.out.1; have HL := Lib.hid HT.out.2; clear HT; (try (have HA2 := Lib.hid (And.intro (HA.out.1.alloc (.cells (arrv 6 (sideV (v2L VV NN))) 41)) HA.out.2); clear HA; have HA := HA2; clear HA2))
      clear hHeld
      refine hK.out _ _ ?_ (fun hHeld => ?_)
      · exact ⟨HS.out.s, HS.out.ex1, HS.out.ex0⟩
      clear hK K
      (try simp only [Act.put, nA, nB, nC])
      refine wpAnyM_twoS 2 13 rfl rfl (by kernel_rfl) (fun K hK => ?_) (fun K hK => ?_)
      · go_simp
        (refine (part_any KS 7 _ (by decide) (by decide)).mono ?_); (rw [HV.out.2]); rintro e w11 ⟨rfl, hb⟩; have HS2 := Lib.hid (HS.out.down hb); clear HS; have HS := HS2; clear HS2; (try (have HA2 := Lib.hid (And.intro (HA.out.1.below hb) HA.out.2); clear HA; have HA := HA2; clear HA2)); (try (have HL2 := Lib.hid (HL.out.below hb); clear HL; have HL := HL2; clear HL2)); (try (have HM2 := Lib.hid (HM.out.below hb); clear HM; have HM := HM2; clear HM2)); clear hb
        (try dsimp only)
        (try simp only [Act.put, nA, nB, nC])
        clear hHeld
        refine hK.out _ _ ?_ (fun hHeld => ?_)
        · exact ⟨HS.out.s, HS.out.ex1, HS.out.ex0⟩
        clear hK K
        (try simp only [Act.put, nA, nB, nC])
        refine wpAnyM_twoS 8 13 rfl rfl (by kernel_rfl) (fun K hK => ?_) (fun K hK => ?_)
        · go_simp
          (refine (MC.out _ _ HS.out.cell HS.out.free HL.out).mono ?_); rintro e w12 ⟨rfl, hu⟩; clear HL; have hcl := HS.out.cell; have hcb := HS.out.cb; have hlm := HS.out.lim; have HS2 := Lib.hid (HS.out.upd' hu); clear HS; have HS := HS2; clear HS2; (try (have HA2 := Lib.hid (And.intro (HA.out.1.upd hu (by have := HA.out.2; omega)) HA.out.2); clear HA; have HA := HA2; clear HA2)); (try (have HL2 := Lib.hid (HL.out.upd hcl hu); clear HL; have HL := HL2; clear HL2)); (try (have HM2 := Lib.hid (HM.out.upd hcl hu); clear HM; have HM := HM2; clear HM2)); clear hu hcl hcb hlm
          (try dsimp only)
          (try simp only [Act.put, nA, nB, nC])
          clear hHeld
          refine hK.out _ _ ?_ (fun hHeld => ?_)
          · exact ⟨HS.out.s, HS.out.ex1, HS.out.ex0⟩
          clear hK K
          (try simp only [Act.put, nA, nB, nC])
          refine wpAnyM_twoS 10 13 rfl rfl (by kernel_rfl) (fun K hK => ?_) (fun K hK => ?_)
          · go_simp
            (refine (LC.out _ HS.out.cell HS.out.free).mono ?_); rintro e w13 ⟨rfl, hu⟩; have hcl := HS.out.cell; have hcb := HS.out.cb; have hlm := HS.out.lim; have HS2 := Lib.hid (HS.out.upd' hu); clear HS; have HS := HS2; clear HS2; (try (have HA2 := Lib.hid (And.intro (HA.out.1.upd hu (by have := HA.out.2; omega)) HA.out.2); clear HA; have HA := HA2; clear HA2)); (try (have HL2 := Lib.hid (HL.out.upd hcl hu); clear HL; have HL := HL2; clear HL2)); (try (have HM2 := Lib.hid (HM.out.upd hcl hu); clear HM; have HM := HM2; clear HM2)); clear hu hcl hcb hlm
            (try dsimp only)
            (try simp only [Act.put, nA, nB, nC])
            clear hHeld
            refine hK.out _ _ ?_ (fun hHeld => ?_)
            · exact ⟨HS.out.s, HS.out.ex1, HS.out.ex0⟩
            clear hK K
            (try simp only [Act.put, nA, nB, nC])
            refine wpAnyM_twoS 11 13 rfl rfl (by kernel_rfl) (fun K hK => ?_) (fun K hK => ?_)
            · refine if_pos_of (by rfl) (wp_bslv2 (.tmp 51) (.tmp 59) rfl rfl rfl ?_); have HT := Lib.hid (ts_sl2 HS.out (v2L XX LL) _ (by first | (simp; rfl) | rfl)); clear HS; have HS := Lib.hid HT.out.1; have HM := Lib.hid HT.out.2; clear HT; (try (have HA2 := Lib.hid (And.intro (HA.out.1.alloc (.cells (arrv 6 (sideV (v2L XX LL))) 41)) HA.out.2); clear HA; have HA := HA2; clear HA2))
              clear hHeld
              refine hK.out _ _ ?_ (fun hHeld => ?_)
              · exact ⟨HS.out.s, HS.out.ex1, HS.out.ex0⟩
              clear hK K
              (try simp only [Act.put, nA, nB, nC])
              refine wpAnyM_twoS 12 13 rfl rfl (by kernel_rfl) (fun K hK => ?_) (fun K hK => ?_)
              · go_simp
                (refine (XC.out _ _ HS.out.cell HS.out.free HM.out).mono ?_); rintro e w14 ⟨rfl, hu⟩; clear HM; have hcl := HS.out.cell; have hcb := HS.out.cb; have hlm := HS.out.lim; have HS2 := Lib.hid (HS.out.upd' hu); clear HS; have HS := HS2; clear HS2; (try (have HA2 := Lib.hid (And.intro (HA.out.1.upd hu (by have := HA.out.2; omega)) HA.out.2); clear HA; have HA := HA2; clear HA2)); (try (have HL2 := Lib.hid (HL.out.upd hcl hu); clear HL; have HL := HL2; clear HL2)); (try (have HM2 := Lib.hid (HM.out.upd hcl hu); clear HM; have HM := HM2; clear HM2)); clear hu hcl hcb hlm
                (try dsimp only)
                (try simp only [Act.put, nA, nB, nC])
                clear hHeld
                refine hK.out _ _ ?_ (fun hHeld => ?_)
                · exact ⟨HS.out.s, HS.out.ex1, HS.out.ex0⟩
                clear hK K
                (try simp only [Act.put, nA, nB, nC])
                refine wpAnyM_oneS 13 rfl (by kernel_rfl) (fun K hK => ?_)
                go_simp; have HA := Lib.hid (ts_new3 HS.out _ (by first | (simp; rfl) | rfl)); have HS2 := Lib.hid (HS.out.alloc (.cells #[.int .i64 0, .int .i64 0, .int .i64 0] 41)); clear HS; have HS := HS2; clear HS2; (try (have HL2 := Lib.hid (HL.out.below (Below.alloc (Below.refl _ _) (Nat.le_refl _) (.cells #[.int .i64 0, .int .i64 0, .int .i64 0] 41))); clear HL; have HL := HL2; clear HL2)); (try (have HM2 := Lib.hid (HM.out.below (Below.alloc (Below.refl _ _) (Nat.le_refl _) (.cells #[.int .i64 0, .int .i64 0, .int .i64 0] 41))); clear HM; have HM := HM2; clear HM2))
                clear hHeld
                refine hK.out _ _ ?_ (fun hHeld => ?_)
                · exact ⟨HS.out.s, HS.out.ex1, HS.out.ex0⟩
                clear hK K
                (try simp only [Act.put, nA, nB, nC])
                refine wpAnyM_one 14 rfl (by kernel_rfl) (fun K hK => ?_)
                refine if_pos_of rfl ?_; refine wp_of_run (run_store_row 41 (.tmp 12) (.tmp 61) rfl _ rfl rfl HA.out.1 iv3) ?_
                refine hK.out _ _ (.inl (by kernel_rfl)) (fun _ => ?_)
                clear hK K
                (try simp only [Act.put, nA, nB, nC])
                refine wpAnyM_done (by kernel_rfl) ?_ _
                (go_wp2_with fail; go_meet; exact ⟨_, rfl, Lib.hid (HS.out.put HA.out.1 HA.out.2 YY)⟩)
              · go_simp; have HA := Lib.hid (ts_new3 HS.out _ (by first | (simp; rfl) | rfl)); have HS2 := Lib.hid (HS.out.alloc (.cells #[.int .i64 0, .int .i64 0, .int .i64 0] 41)); clear HS; have HS := HS2; clear HS2; (try (have HL2 := Lib.hid (HL.out.below (Below.alloc (Below.refl _ _) (Nat.le_refl _) (.cells #[.int .i64 0, .int .i64 0, .int .i64 0] 41))); clear HL; have HL := HL2; clear HL2)); (try (have HM2 := Lib.hid (HM.out.below (Below.alloc (Below.refl _ _) (Nat.le_refl _) (.cells #[.int .i64 0, .int .i64 0, .int .i64 0] 41))); clear HM; have HM := HM2; clear HM2))
                clear hHeld
                refine hK.out _ _ ?_ (fun hHeld => ?_)
                · exact ⟨HS.out.s, HS.out.ex1, HS.out.ex0⟩
                clear hK K
                (try simp only [Act.put, nA, nB, nC])
                refine wpAnyM_oneS 12 rfl (by kernel_rfl) (fun K hK => ?_)
                go_simp
                (refine (XC.out _ _ HS.out.cell HS.out.free HM.out).mono ?_); rintro e w14 ⟨rfl, hu⟩; clear HM; have hcl := HS.out.cell; have hcb := HS.out.cb; have hlm := HS.out.lim; have HS2 := Lib.hid (HS.out.upd' hu); clear HS; have HS := HS2; clear HS2; (try (have HA2 := Lib.hid (And.intro (HA.out.1.upd hu (by have := HA.out.2; omega)) HA.out.2); clear HA; have HA := HA2; clear HA2)); (try (have HL2 := Lib.hid (HL.out.upd hcl hu); clear HL; have HL := HL2; clear HL2)); (try (have HM2 := Lib.hid (HM.out.upd hcl hu); clear HM; have HM := HM2; clear HM2)); clear hu hcl hcb hlm
                (try dsimp only)
                (try simp only [Act.put, nA, nB, nC])
                clear hHeld
                refine hK.out _ _ ?_ (fun hHeld => ?_)
                · exact ⟨HS.out.s, HS.out.ex1, HS.out.ex0⟩
                clear hK K
                (try simp only [Act.put, nA, nB, nC])
                refine wpAnyM_one 14 rfl (by kernel_rfl) (fun K hK => ?_)
                refine if_pos_of rfl ?_; refine wp_of_run (run_store_row 41 (.tmp 12) (.tmp 61) rfl _ rfl rfl HA.out.1 iv3) ?_
                refine hK.out _ _ (.inl (by kernel_rfl)) (fun _ => ?_)
                clear hK K
                (try simp only [Act.put, nA, nB, nC])
                refine wpAnyM_done (by kernel_rfl) ?_ _
                (go_wp2_with fail; go_meet; exact ⟨_, rfl, Lib.hid (HS.out.put HA.out.1 HA.out.2 YY)⟩)
            · go_simp; have HA := Lib.hid (ts_new3 HS.out _ (by first | (simp; rfl) | rfl)); have HS2 := Lib.hid (HS.out.alloc (.cells #[.int .i64 0, .int .i64 0, .int .i64 0] 41)); clear HS; have HS := HS2; clear HS2; (try (have HL2 := Lib.hid (HL.out.below (Below.alloc (Below.refl _ _) (Nat.le_refl _) (.cells #[.int .i64 0, .int .i64 0, .int .i64 0] 41))); clear HL; have HL := HL2; clear HL2)); (try (have HM2 := Lib.hid (HM.out.below (Below.alloc (Below.refl _ _) (Nat.le_refl _) (.cells #[.int .i64 0, .int .i64 0, .int .i64 0] 41))); clear HM; have HM := HM2; clear HM2))
              clear hHeld
              refine hK.out _ _ ?_ (fun hHeld => ?_)
              · exact ⟨HS.out.s, HS.out.ex1, HS.out.ex0⟩
              clear hK K
              (try simp only [Act.put, nA, nB, nC])
              refine wpAnyM_oneS 11 rfl (by kernel_rfl) (fun K hK => ?_)
              refine if_pos_of (by rfl) (wp_bslv2 (.tmp 51) (.tmp 59) rfl rfl rfl ?_); have HT := Lib.hid (ts_sl2 HS.out (v2L XX LL) _ (by first | (simp; rfl) | rfl)); clear HS; have HS := Lib.hid HT.out.1; have HM := Lib.hid HT.out.2; clear HT; (try (have HA2 := Lib.hid (And.intro (HA.out.1.alloc (.cells (arrv 6 (sideV (v2L XX LL))) 41)) HA.out.2); clear HA; have HA := HA2; clear HA2))
              clear hHeld
              refine hK.out _ _ ?_ (fun hHeld => ?_)
              · exact ⟨HS.out.s, HS.out.ex1, HS.out.ex0⟩
              clear hK K
              (try simp only [Act.put, nA, nB, nC])
              refine wpAnyM_oneS 12 rfl (by kernel_rfl) (fun K hK => ?_)
              go_simp
              (refine (XC.out _ _ HS.out.cell HS.out.free HM.out).mono ?_); rintro e w14 ⟨rfl, hu⟩; clear HM; have hcl := HS.out.cell; have hcb := HS.out.cb; have hlm := HS.out.lim; have HS2 := Lib.hid (HS.out.upd' hu); clear HS; have HS := HS2; clear HS2; (try (have HA2 := Lib.hid (And.intro (HA.out.1.upd hu (by have := HA.out.2; omega)) HA.out.2); clear HA; have HA := HA2; clear HA2)); (try (have HL2 := Lib.hid (HL.out.upd hcl hu); clear HL; have HL := HL2; clear HL2)); (try (have HM2 := Lib.hid (HM.out.upd hcl hu); clear HM; have HM := HM2; clear HM2)); clear hu hcl hcb hlm
              (try dsimp only)
              (try simp only [Act.put, nA, nB, nC])
              clear hHeld
              refine hK.out _ _ ?_ (fun hHeld => ?_)
              · exact ⟨HS.out.s, HS.out.ex1, HS.out.ex0⟩
              clear hK K
              (try simp only [Act.put, nA, nB, nC])
              refine wpAnyM_one 14 rfl (by kernel_rfl) (fun K hK => ?_)
              refine if_pos_of rfl ?_; refine wp_of_run (run_store_row 41 (.tmp 12) (.tmp 61) rfl _ rfl rfl HA.out.1 iv3) ?_
              refine hK.out _ _ (.inl (by kernel_rfl)) (fun _ => ?_)
              clear hK K
              (try simp only [Act.put, nA, nB, nC])
              refine wpAnyM_done (by kernel_rfl) ?_ _
              (go_wp2_with fail; go_meet; exact ⟨_, rfl, Lib.hid (HS.out.put HA.out.1 HA.out.2 YY)⟩)
          · go_simp; have HA := Lib.hid (ts_new3 HS.out _ (by first | (simp; rfl) | rfl)); have HS2 := Lib.hid (HS.out.alloc (.cells #[.int .i64 0, .int .i64 0, .int .i64 0] 41)); clear HS; have HS := HS2; clear HS2; (try (have HL2 := Lib.hid (HL.out.below (Below.alloc (Below.refl _ _) (Nat.le_refl _) (.cells #[.int .i64 0, .int .i64 0, .int .i64 0] 41))); clear HL; have HL := HL2; clear HL2)); (try (have HM2 := Lib.hid (HM.out.below (Below.alloc (Below.refl _ _) (Nat.le_refl _) (.cells #[.int .i64 0, .int .i64 0, .int .i64 0] 41))); clear HM; have HM := HM2; clear HM2))
            clear hHeld
            refine hK.out _ _ ?_ (fun hHeld => ?_)
            · exact ⟨HS.out.s, HS.out.ex1, HS.out.ex0⟩
            clear hK K
            (try simp only [Act.put, nA, nB, nC])
            refine wpAnyM_oneS 10 rfl (by kernel_rfl) (fun K hK => ?_)
            go_simp
            (refine (LC.out _ HS.out.cell HS.out.free).mono ?_); rintro e w13 ⟨rfl, hu⟩; have hcl := HS.out.cell; have hcb := HS.out.cb; have hlm := HS.out.lim; have HS2 := Lib.hid (HS.out.upd' hu); clear HS; have HS := HS2; clear HS2; (try (have HA2 := Lib.hid (And.intro (HA.out.1.upd hu (by have := HA.out.2; omega)) HA.out.2); clear HA; have HA := HA2; clear HA2)); (try (have HL2 := Lib.hid (HL.out.upd hcl hu); clear HL; have HL := HL2; clear HL2)); (try (have HM2 := Lib.hid (HM.out.upd hcl hu); clear HM; have HM := HM2; clear HM2)); clear hu hcl hcb hlm
            (try dsimp only)
            (try simp only [Act.put, nA, nB, nC])
            clear hHeld
            refine hK.out _ _ ?_ (fun hHeld => ?_)
            · exact ⟨HS.out.s, HS.out.ex1, HS.out.ex0⟩
            clear hK K
            (try simp only [Act.put, nA, nB, nC])
            refine wpAnyM_oneS 11 rfl (by kernel_rfl) (fun K hK => ?_)
            refine if_pos_of (by rfl) (wp_bslv2 (.tmp 51) (.tmp 59) rfl rfl rfl ?_); have HT := Lib.hid (ts_sl2 HS.out (v2L XX LL) _ (by first | (simp; rfl) | rfl)); clear HS; have HS := Lib.hid HT.out.1; have HM := Lib.hid HT.out.2; clear HT; (try (have HA2 := Lib.hid (And.intro (HA.out.1.alloc (.cells (arrv 6 (sideV (v2L XX LL))) 41)) HA.out.2); clear HA; have HA := HA2; clear HA2))
            clear hHeld
            refine hK.out _ _ ?_ (fun hHeld => ?_)
            · exact ⟨HS.out.s, HS.out.ex1, HS.out.ex0⟩
            clear hK K
            (try simp only [Act.put, nA, nB, nC])
            refine wpAnyM_oneS 12 rfl (by kernel_rfl) (fun K hK => ?_)
            go_simp
            (refine (XC.out _ _ HS.out.cell HS.out.free HM.out).mono ?_); rintro e w14 ⟨rfl, hu⟩; clear HM; have hcl := HS.out.cell; have hcb := HS.out.cb; have hlm := HS.out.lim; have HS2 := Lib.hid (HS.out.upd' hu); clear HS; have HS := HS2; clear HS2; (try (have HA2 := Lib.hid (And.intro (HA.out.1.upd hu (by have := HA.out.2; omega)) HA.out.2); clear HA; have HA := HA2; clear HA2)); (try (have HL2 := Lib.hid (HL.out.upd hcl hu); clear HL; have HL := HL2; clear HL2)); (try (have HM2 := Lib.hid (HM.out.upd hcl hu); clear HM; have HM := HM2; clear HM2)); clear hu hcl hcb hlm
            (try dsimp only)
            (try simp only [Act.put, nA, nB, nC])
            clear hHeld
            refine hK.out _ _ ?_ (fun hHeld => ?_)
            · exact ⟨HS.out.s, HS.out.ex1, HS.out.ex0⟩
            clear hK K
            (try simp only [Act.put, nA, nB, nC])
            refine wpAnyM_one 14 rfl (by kernel_rfl) (fun K hK => ?_)
            refine if_pos_of rfl ?_; refine wp_of_run (run_store_row 41 (.tmp 12) (.tmp 61) rfl _ rfl rfl HA.out.1 iv3) ?_
            refine hK.out _ _ (.inl (by kernel_rfl)) (fun _ => ?_)
            clear hK K
            (try simp only [Act.put, nA, nB, nC])
            refine wpAnyM_done (by kernel_rfl) ?_ _
            (go_wp2_with fail; go_meet; exact ⟨_, rfl, Lib.hid (HS.out.put HA.out.1 HA.out.2 YY)⟩)
        · go_simp; have HA := Lib.hid (ts_new3 HS.out _ (by first | (simp; rfl) | rfl)); have HS2 := Lib.hid (HS.out.alloc (.cells #[.int .i64 0, .int .i64 0, .int .i64 0] 41)); clear HS; have HS := HS2; clear HS2; (try (have HL2 := Lib.hid (HL.out.below (Below.alloc (Below.refl _ _) (Nat.le_refl _) (.cells #[.int .i64 0, .int .i64 0, .int .i64 0] 41))); clear HL; have HL := HL2; clear HL2)); (try (have HM2 := Lib.hid (HM.out.below (Below.alloc (Below.refl _ _) (Nat.le_refl _) (.cells #[.int .i64 0, .int .i64 0, .int .i64 0] 41))); clear HM; have HM := HM2; clear HM2))
          clear hHeld
          refine hK.out _ _ ?_ (fun hHeld => ?_)
          · exact ⟨HS.out.s, HS.out.ex1, HS.out.ex0⟩
          clear hK K
          (try simp only [Act.put, nA, nB, nC])
          refine wpAnyM_oneS 8 rfl (by kernel_rfl) (fun K hK => ?_)
          go_simp
          (refine (MC.out _ _ HS.out.cell HS.out.free HL.out).mono ?_); rintro e w12 ⟨rfl, hu⟩; clear HL; have hcl := HS.out.cell; have hcb := HS.out.cb; have hlm := HS.out.lim; have HS2 := Lib.hid (HS.out.upd' hu); clear HS; have HS := HS2; clear HS2; (try (have HA2 := Lib.hid (And.intro (HA.out.1.upd hu (by have := HA.out.2; omega)) HA.out.2); clear HA; have HA := HA2; clear HA2)); (try (have HL2 := Lib.hid (HL.out.upd hcl hu); clear HL; have HL := HL2; clear HL2)); (try (have HM2 := Lib.hid (HM.out.upd hcl hu); clear HM; have HM := HM2; clear HM2)); clear hu hcl hcb hlm
          (try dsimp only)
          (try simp only [Act.put, nA, nB, nC])
          clear hHeld
          refine hK.out _ _ ?_ (fun hHeld => ?_)
          · exact ⟨HS.out.s, HS.out.ex1, HS.out.ex0⟩
          clear hK K
          (try simp only [Act.put, nA, nB, nC])
          refine wpAnyM_oneS 10 rfl (by kernel_rfl) (fun K hK => ?_)
          go_simp
          (refine (LC.out _ HS.out.cell HS.out.free).mono ?_); rintro e w13 ⟨rfl, hu⟩; have hcl := HS.out.cell; have hcb := HS.out.cb; have hlm := HS.out.lim; have HS2 := Lib.hid (HS.out.upd' hu); clear HS; have HS := HS2; clear HS2; (try (have HA2 := Lib.hid (And.intro (HA.out.1.upd hu (by have := HA.out.2; omega)) HA.out.2); clear HA; have HA := HA2; clear HA2)); (try (have HL2 := Lib.hid (HL.out.upd hcl hu); clear HL; have HL := HL2; clear HL2)); (try (have HM2 := Lib.hid (HM.out.upd hcl hu); clear HM; have HM := HM2; clear HM2)); clear hu hcl hcb hlm
          (try dsimp only)
          (try simp only [Act.put, nA, nB, nC])
          clear hHeld
          refine hK.out _ _ ?_ (fun hHeld => ?_)
          · exact ⟨HS.out.s, HS.out.ex1, HS.out.ex0⟩
          clear hK K
          (try simp only [Act.put, nA, nB, nC])
          refine wpAnyM_oneS 11 rfl (by kernel_rfl) (fun K hK => ?_)
          refine if_pos_of (by rfl) (wp_bslv2 (.tmp 51) (.tmp 59) rfl rfl rfl ?_); have HT := Lib.hid (ts_sl2 HS.out (v2L XX LL) _ (by first | (simp; rfl) | rfl)); clear HS; have HS := Lib.hid HT.out.1; have HM := Lib.hid HT.out.2; clear HT; (try (have HA2 := Lib.hid (And.intro (HA.out.1.alloc (.cells (arrv 6 (sideV (v2L XX LL))) 41)) HA.out.2); clear HA; have HA := HA2; clear HA2))
          clear hHeld
          refine hK.out _ _ ?_ (fun hHeld => ?_)
          · exact ⟨HS.out.s, HS.out.ex1, HS.out.ex0⟩
          clear hK K
          (try simp only [Act.put, nA, nB, nC])
          refine wpAnyM_oneS 12 rfl (by kernel_rfl) (fun K hK => ?_)
          go_simp
          (refine (XC.out _ _ HS.out.cell HS.out.free HM.out).mono ?_); rintro e w14 ⟨rfl, hu⟩; clear HM; have hcl := HS.out.cell; have hcb := HS.out.cb; have hlm := HS.out.lim; have HS2 := Lib.hid (HS.out.upd' hu); clear HS; have HS := HS2; clear HS2; (try (have HA2 := Lib.hid (And.intro (HA.out.1.upd hu (by have := HA.out.2; omega)) HA.out.2); clear HA; have HA := HA2; clear HA2)); (try (have HL2 := Lib.hid (HL.out.upd hcl hu); clear HL; have HL := HL2; clear HL2)); (try (have HM2 := Lib.hid (HM.out.upd hcl hu); clear HM; have HM := HM2; clear HM2)); clear hu hcl hcb hlm
          (try dsimp only)
          (try simp only [Act.put, nA, nB, nC])
          clear hHeld
          refine hK.out _ _ ?_ (fun hHeld => ?_)
          · exact ⟨HS.out.s, HS.out.ex1, HS.out.ex0⟩
          clear hK K
          (try simp only [Act.put, nA, nB, nC])
          refine wpAnyM_one 14 rfl (by kernel_rfl) (fun K hK => ?_)
          refine if_pos_of rfl ?_; refine wp_of_run (run_store_row 41 (.tmp 12) (.tmp 61) rfl _ rfl rfl HA.out.1 iv3) ?_
          refine hK.out _ _ (.inl (by kernel_rfl)) (fun _ => ?_)
          clear hK K
          (try simp only [Act.put, nA, nB, nC])
          refine wpAnyM_done (by kernel_rfl) ?_ _
          (go_wp2_with fail; go_meet; exact ⟨_, rfl, Lib.hid (HS.out.put HA.out.1 HA.out.2 YY)⟩)
      · go_simp; have HA := Lib.hid (ts_new3 HS.out _ (by first | (simp; rfl) | rfl)); have HS2 := Lib.hid (HS.out.alloc (.cells #[.int .i64 0, .int .i64 0, .int .i64 0] 41)); clear HS; have HS := HS2; clear HS2; (try (have HL2 := Lib.hid (HL.out.below (Below.alloc (Below.refl _ _) (Nat.le_refl _) (.cells #[.int .i64 0, .int .i64 0, .int .i64 0] 41))); clear HL; have HL := HL2; clear HL2)); (try (have HM2 := Lib.hid (HM.out.below (Below.alloc (Below.refl _ _) (Nat.le_refl _) (.cells #[.int .i64 0, .int .i64 0, .int .i64 0] 41))); clear HM; have HM := HM2; clear HM2))
        clear hHeld
        refine hK.out _ _ ?_ (fun hHeld => ?_)
        · exact ⟨HS.out.s, HS.out.ex1, HS.out.ex0⟩
        clear hK K
        (try simp only [Act.put, nA, nB, nC])
        refine wpAnyM_oneS 2 rfl (by kernel_rfl) (fun K hK => ?_)
        go_simp
        (refine (part_any KS 7 _ (by decide) (by decide)).mono ?_); (rw [HV.out.2]); rintro e w11 ⟨rfl, hb⟩; have HS2 := Lib.hid (HS.out.down hb); clear HS; have HS := HS2; clear HS2; (try (have HA2 := Lib.hid (And.intro (HA.out.1.below hb) HA.out.2); clear HA; have HA := HA2; clear HA2)); (try (have HL2 := Lib.hid (HL.out.below hb); clear HL; have HL := HL2; clear HL2)); (try (have HM2 := Lib.hid (HM.out.below hb); clear HM; have HM := HM2; clear HM2)); clear hb
        (try dsimp only)
        (try simp only [Act.put, nA, nB, nC])
        clear hHeld
        refine hK.out _ _ ?_ (fun hHeld => ?_)
        · exact ⟨HS.out.s, HS.out.ex1, HS.out.ex0⟩
        clear hK K
        (try simp only [Act.put, nA, nB, nC])
        refine wpAnyM_oneS 8 rfl (by kernel_rfl) (fun K hK => ?_)
        go_simp
        (refine (MC.out _ _ HS.out.cell HS.out.free HL.out).mono ?_); rintro e w12 ⟨rfl, hu⟩; clear HL; have hcl := HS.out.cell; have hcb := HS.out.cb; have hlm := HS.out.lim; have HS2 := Lib.hid (HS.out.upd' hu); clear HS; have HS := HS2; clear HS2; (try (have HA2 := Lib.hid (And.intro (HA.out.1.upd hu (by have := HA.out.2; omega)) HA.out.2); clear HA; have HA := HA2; clear HA2)); (try (have HL2 := Lib.hid (HL.out.upd hcl hu); clear HL; have HL := HL2; clear HL2)); (try (have HM2 := Lib.hid (HM.out.upd hcl hu); clear HM; have HM := HM2; clear HM2)); clear hu hcl hcb hlm
        (try dsimp only)
        (try simp only [Act.put, nA, nB, nC])
        clear hHeld
        refine hK.out _ _ ?_ (fun hHeld => ?_)
        · exact ⟨HS.out.s, HS.out.ex1, HS.out.ex0⟩
        clear hK K
        (try simp only [Act.put, nA, nB, nC])
        refine wpAnyM_oneS 10 rfl (by kernel_rfl) (fun K hK => ?_)
        go_simp
        (refine (LC.out _ HS.out.cell HS.out.free).mono ?_); rintro e w13 ⟨rfl, hu⟩; have hcl := HS.out.cell; have hcb := HS.out.cb; have hlm := HS.out.lim; have HS2 := Lib.hid (HS.out.upd' hu); clear HS; have HS := HS2; clear HS2; (try (have HA2 := Lib.hid (And.intro (HA.out.1.upd hu (by have := HA.out.2; omega)) HA.out.2); clear HA; have HA := HA2; clear HA2)); (try (have HL2 := Lib.hid (HL.out.upd hcl hu); clear HL; have HL := HL2; clear HL2)); (try (have HM2 := Lib.hid (HM.out.upd hcl hu); clear HM; have HM := HM2; clear HM2)); clear hu hcl hcb hlm
        (try dsimp only)
        (try simp only [Act.put, nA, nB, nC])
        clear hHeld
        refine hK.out _ _ ?_ (fun hHeld => ?_)
        · exact ⟨HS.out.s, HS.out.ex1, HS.out.ex0⟩
        clear hK K
        (try simp only [Act.put, nA, nB, nC])
        refine wpAnyM_oneS 11 rfl (by kernel_rfl) (fun K hK => ?_)
        refine if_pos_of (by rfl) (wp_bslv2 (.tmp 51) (.tmp 59) rfl rfl rfl ?_); have HT := Lib.hid (ts_sl2 HS.out (v2L XX LL) _ (by first | (simp; rfl) | rfl)); clear HS; have HS := Lib.hid HT.out.1; have HM := Lib.hid HT.out.2; clear HT; (try (have HA2 := Lib.hid (And.intro (HA.out.1.alloc (.cells (arrv 6 (sideV (v2L XX LL))) 41)) HA.out.2); clear HA; have HA := HA2; clear HA2))
        clear hHeld
        refine hK.out _ _ ?_ (fun hHeld => ?_)
        · exact ⟨HS.out.s, HS.out.ex1, HS.out.ex0⟩
        clear hK K
        (try simp only [Act.put, nA, nB, nC])
        refine wpAnyM_oneS 12 rfl (by kernel_rfl) (fun K hK => ?_)
        go_simp
        (refine (XC.out _ _ HS.out.cell HS.out.free HM.out).mono ?_); rintro e w14 ⟨rfl, hu⟩; clear HM; have hcl := HS.out.cell; have hcb := HS.out.cb; have hlm := HS.out.lim; have HS2 := Lib.hid (HS.out.upd' hu); clear HS; have HS := HS2; clear HS2; (try (have HA2 := Lib.hid (And.intro (HA.out.1.upd hu (by have := HA.out.2; omega)) HA.out.2); clear HA; have HA := HA2; clear HA2)); (try (have HL2 := Lib.hid (HL.out.upd hcl hu); clear HL; have HL := HL2; clear HL2)); (try (have HM2 := Lib.hid (HM.out.upd hcl hu); clear HM; have HM := HM2; clear HM2)); clear hu hcl hcb hlm
        (try dsimp only)
        (try simp only [Act.put, nA, nB, nC])
        clear hHeld
        refine hK.out _ _ ?_ (fun hHeld => ?_)
        · exact ⟨HS.out.s, HS.out.ex1, HS.out.ex0⟩
        clear hK K
        (try simp only [Act.put, nA, nB, nC])
        refine wpAnyM_one 14 rfl (by kernel_rfl) (fun K hK => ?_)
        refine if_pos_of rfl ?_; refine wp_of_run (run_store_row 41 (.tmp 12) (.tmp 61) rfl _ rfl rfl HA.out.1 iv3) ?_
        refine hK.out _ _ (.inl (by kernel_rfl)) (fun _ => ?_)
        clear hK K
        (try simp only [Act.put, nA, nB, nC])
        refine wpAnyM_done (by kernel_rfl) ?_ _
        (go_wp2_with fail; go_meet; exact ⟨_, rfl, Lib.hid (HS.out.put HA.out.1 HA.out.2 YY)⟩)
    · go_simp; have HA := Lib.hid (ts_new3 HS.out _ (by first | (simp; rfl) | rfl)); have HS2 := Lib.hid (HS.out.alloc (.cells #[.int .i64 0, .int .i64 0, .int .i64 0] 41)); clear HS; have HS := HS2; clear HS2; (try (have HL2 := Lib.hid (HL.out.below (Below.alloc (Below.refl _ _) (Nat.le_refl _) (.cells #[.int .i64 0, .int .i64 0, .int .i64 0] 41))); clear HL; have HL := HL2; clear HL2)); (try (have HM2 := Lib.hid (HM.out.below (Below.alloc (Below.refl _ _) (Nat.le_refl _) (.cells #[.int .i64 0, .int .i64 0, .int .i64 0] 41))); clear HM; have HM := HM2; clear HM2))
      clear hHeld
      refine hK.out _ _ ?_ (fun hHeld => ?_)
      · exact ⟨HS.out.s, HS.out.ex1, HS.out.ex0⟩
      clear hK K
      (try simp only [Act.put, nA, nB, nC])
      refine wpAnyM_twoS 2 7 rfl rfl (by kernel_rfl) (fun K hK => ?_) (fun K hK => ?_)
      · go_simp
        (refine (part_any KS 7 _ (by decide) (by decide)).mono ?_); (rw [HV.out.2]); rintro e w11 ⟨rfl, hb⟩; have HS2 := Lib.hid (HS.out.down hb); clear HS; have HS := HS2; clear HS2; (try (have HA2 := Lib.hid (And.intro (HA.out.1.below hb) HA.out.2); clear HA; have HA := HA2; clear HA2)); (try (have HL2 := Lib.hid (HL.out.below hb); clear HL; have HL := HL2; clear HL2)); (try (have HM2 := Lib.hid (HM.out.below hb); clear HM; have HM := HM2; clear HM2)); clear hb
        (try dsimp only)
        (try simp only [Act.put, nA, nB, nC])
        clear hHeld
        refine hK.out _ _ ?_ (fun hHeld => ?_)
        · exact ⟨HS.out.s, HS.out.ex1, HS.out.ex0⟩
        clear hK K
        (try simp only [Act.put, nA, nB, nC])
        refine wpAnyM_oneS 7 rfl (by kernel_rfl) (fun K hK => ?_)
        refine if_pos_of (by rfl) (wp_bslv2 (.tmp 54) (.tmp 55) rfl rfl rfl ?_); have HT := Lib.hid (ts_sl2 HS.out (v2L VV NN) _ (by first | (simp; rfl) | rfl)); clear HS; have HS := Lib.hid HT.out.1; have HL := Lib.hid HT.out.2; clear HT; (try (have HA2 := Lib.hid (And.intro (HA.out.1.alloc (.cells (arrv 6 (sideV (v2L VV NN))) 41)) HA.out.2); clear HA; have HA := HA2; clear HA2))
        clear hHeld
        refine hK.out _ _ ?_ (fun hHeld => ?_)
        · exact ⟨HS.out.s, HS.out.ex1, HS.out.ex0⟩
        clear hK K
        (try simp only [Act.put, nA, nB, nC])
        refine wpAnyM_oneS 8 rfl (by kernel_rfl) (fun K hK => ?_)
        go_simp
        (refine (MC.out _ _ HS.out.cell HS.out.free HL.out).mono ?_); rintro e w12 ⟨rfl, hu⟩; clear HL; have hcl := HS.out.cell; have hcb := HS.out.cb; have hlm := HS.out.lim; have HS2 := Lib.hid (HS.out.upd' hu); clear HS; have HS := HS2; clear HS2; (try (have HA2 := Lib.hid (And.intro (HA.out.1.upd hu (by have := HA.out.2; omega)) HA.out.2); clear HA; have HA := HA2; clear HA2)); (try (have HL2 := Lib.hid (HL.out.upd hcl hu); clear HL; have HL := HL2; clear HL2)); (try (have HM2 := Lib.hid (HM.out.upd hcl hu); clear HM; have HM := HM2; clear HM2)); clear hu hcl hcb hlm
        (try dsimp only)
        (try simp only [Act.put, nA, nB, nC])
        clear hHeld
        refine hK.out _ _ ?_ (fun hHeld => ?_)
        · exact ⟨HS.out.s, HS.out.ex1, HS.out.ex0⟩
        clear hK K
        (try simp only [Act.put, nA, nB, nC])
        refine wpAnyM_oneS 10 rfl (by kernel_rfl) (fun K hK => ?_)
        go_simp
        (refine (LC.out _ HS.out.cell HS.out.free).mono ?_); rintro e w13 ⟨rfl, hu⟩; have hcl := HS.out.cell; have hcb := HS.out.cb; have hlm := HS.out.lim; have HS2 := Lib.hid (HS.out.upd' hu); clear HS; have HS := HS2; clear HS2; (try (have HA2 := Lib.hid (And.intro (HA.out.1.upd hu (by have := HA.out.2; omega)) HA.out.2); clear HA; have HA := HA2; clear HA2)); (try (have HL2 := Lib.hid (HL.out.upd hcl hu); clear HL; have HL := HL2; clear HL2)); (try (have HM2 := Lib.hid (HM.out.upd hcl hu); clear HM; have HM := HM2; clear HM2)); clear hu hcl hcb hlm
        (try dsimp only)
        (try simp only [Act.put, nA, nB, nC])
        clear hHeld
        refine hK.out _ _ ?_ (fun hHeld => ?_)
        · exact ⟨HS.out.s, HS.out.ex1, HS.out.ex0⟩
        clear hK K
        (try simp only [Act.put, nA, nB, nC])
        refine wpAnyM_oneS 11 rfl (by kernel_rfl) (fun K hK => ?_)
        refine if_pos_of (by rfl) (wp_bslv2 (.tmp 51) (.tmp 59) rfl rfl rfl ?_); have HT := Lib.hid (ts_sl2 HS.out (v2L XX LL) _ (by first | (simp; rfl) | rfl)); clear HS; have HS := Lib.hid HT.out.1; have HM := Lib.hid HT.out.2; clear HT; (try (have HA2 := Lib.hid (And.intro (HA.out.1.alloc (.cells (arrv 6 (sideV (v2L XX LL))) 41)) HA.out.2); clear HA; have HA := HA2; clear HA2))
        clear hHeld
        refine hK.out _ _ ?_ (fun hHeld => ?_)
        · exact ⟨HS.out.s, HS.out.ex1, HS.out.ex0⟩
        clear hK K
        (try simp only [Act.put, nA, nB, nC])
        refine wpAnyM_oneS 12 rfl (by kernel_rfl) (fun K hK => ?_)
        go_simp
        (refine (XC.out _ _ HS.out.cell HS.out.free HM.out).mono ?_); rintro e w14 ⟨rfl, hu⟩; clear HM; have hcl := HS.out.cell; have hcb := HS.out.cb; have hlm := HS.out.lim; have HS2 := Lib.hid (HS.out.upd' hu); clear HS; have HS := HS2; clear HS2; (try (have HA2 := Lib.hid (And.intro (HA.out.1.upd hu (by have := HA.out.2; omega)) HA.out.2); clear HA; have HA := HA2; clear HA2)); (try (have HL2 := Lib.hid (HL.out.upd hcl hu); clear HL; have HL := HL2; clear HL2)); (try (have HM2 := Lib.hid (HM.out.upd hcl hu); clear HM; have HM := HM2; clear HM2)); clear hu hcl hcb hlm
        (try dsimp only)
        (try simp only [Act.put, nA, nB, nC])
        clear hHeld
        refine hK.out _ _ ?_ (fun hHeld => ?_)
        · exact ⟨HS.out.s, HS.out.ex1, HS.out.ex0⟩
        clear hK K
        (try simp only [Act.put, nA, nB, nC])
        refine wpAnyM_one 14 rfl (by kernel_rfl) (fun K hK => ?_)
        refine if_pos_of rfl ?_; refine wp_of_run (run_store_row 41 (.tmp 12) (.tmp 61) rfl _ rfl rfl HA.out.1 iv3) ?_
        refine hK.out _ _ (.inl (by kernel_rfl)) (fun _ => ?_)
        clear hK K
        (try simp only [Act.put, nA, nB, nC])
        refine wpAnyM_done (by kernel_rfl) ?_ _
        (go_wp2_with fail; go_meet; exact ⟨_, rfl, Lib.hid (HS.out.put HA.out.1 HA.out.2 YY)⟩)
      · refine if_pos_of (by rfl) (wp_bslv2 (.tmp 54) (.tmp 55) rfl rfl rfl ?_); have HT := Lib.hid (ts_sl2 HS.out (v2L VV NN) _ (by first | (simp; rfl) | rfl)); clear HS; have HS := Lib.hid HT.out.1; have HL := Lib.hid HT.out.2; clear HT; (try (have HA2 := Lib.hid (And.intro (HA.out.1.alloc (.cells (arrv 6 (sideV (v2L VV NN))) 41)) HA.out.2); clear HA; have HA := HA2; clear HA2))
        clear hHeld
        refine hK.out _ _ ?_ (fun hHeld => ?_)
        · exact ⟨HS.out.s, HS.out.ex1, HS.out.ex0⟩
        clear hK K
        (try simp only [Act.put, nA, nB, nC])
        refine wpAnyM_oneS 2 rfl (by kernel_rfl) (fun K hK => ?_)
        go_simp
        (refine (part_any KS 7 _ (by decide) (by decide)).mono ?_); (rw [HV.out.2]); rintro e w11 ⟨rfl, hb⟩; have HS2 := Lib.hid (HS.out.down hb); clear HS; have HS := HS2; clear HS2; (try (have HA2 := Lib.hid (And.intro (HA.out.1.below hb) HA.out.2); clear HA; have HA := HA2; clear HA2)); (try (have HL2 := Lib.hid (HL.out.below hb); clear HL; have HL := HL2; clear HL2)); (try (have HM2 := Lib.hid (HM.out.below hb); clear HM; have HM := HM2; clear HM2)); clear hb
        (try dsimp only)
        (try simp only [Act.put, nA, nB, nC])
        clear hHeld
        refine hK.out _ _ ?_ (fun hHeld => ?_)
        · exact ⟨HS.out.s, HS.out.ex1, HS.out.ex0⟩
        clear hK K
        (try simp only [Act.put, nA, nB, nC])
        refine wpAnyM_oneS 8 rfl (by kernel_rfl) (fun K hK => ?_)
        go_simp
        (refine (MC.out _ _ HS.out.cell HS.out.free HL.out).mono ?_); rintro e w12 ⟨rfl, hu⟩; clear HL; have hcl := HS.out.cell; have hcb := HS.out.cb; have hlm := HS.out.lim; have HS2 := Lib.hid (HS.out.upd' hu); clear HS; have HS := HS2; clear HS2; (try (have HA2 := Lib.hid (And.intro (HA.out.1.upd hu (by have := HA.out.2; omega)) HA.out.2); clear HA; have HA := HA2; clear HA2)); (try (have HL2 := Lib.hid (HL.out.upd hcl hu); clear HL; have HL := HL2; clear HL2)); (try (have HM2 := Lib.hid (HM.out.upd hcl hu); clear HM; have HM := HM2; clear HM2)); clear hu hcl hcb hlm
        (try dsimp only)
        (try simp only [Act.put, nA, nB, nC])
        clear hHeld
        refine hK.out _ _ ?_ (fun hHeld => ?_)
        · exact ⟨HS.out.s, HS.out.ex1, HS.out.ex0⟩
        clear hK K
        (try simp only [Act.put, nA, nB, nC])
        refine wpAnyM_oneS 10 rfl (by kernel_rfl) (fun K hK => ?_)
        go_simp
        (refine (LC.out _ HS.out.cell HS.out.free).mono ?_); rintro e w13 ⟨rfl, hu⟩; have hcl := HS.out.cell; have hcb := HS.out.cb; have hlm := HS.out.lim; have HS2 := Lib.hid (HS.out.upd' hu); clear HS; have HS := HS2; clear HS2; (try (have HA2 := Lib.hid (And.intro (HA.out.1.upd hu (by have := HA.out.2; omega)) HA.out.2); clear HA; have HA := HA2; clear HA2)); (try (have HL2 := Lib.hid (HL.out.upd hcl hu); clear HL; have HL := HL2; clear HL2)); (try (have HM2 := Lib.hid (HM.out.upd hcl hu); clear HM; have HM := HM2; clear HM2)); clear hu hcl hcb hlm
        (try dsimp only)
        (try simp only [Act.put, nA, nB, nC])
        clear hHeld
        refine hK.out _ _ ?_ (fun hHeld => ?_)
        · exact ⟨HS.out.s, HS.out.ex1, HS.out.ex0⟩
        clear hK K
        (try simp only [Act.put, nA, nB, nC])
        refine wpAnyM_oneS 11 rfl (by kernel_rfl) (fun K hK => ?_)
        refine if_pos_of (by rfl) (wp_bslv2 (.tmp 51) (.tmp 59) rfl rfl rfl ?_); have HT := Lib.hid (ts_sl2 HS.out (v2L XX LL) _ (by first | (simp; rfl) | rfl)); clear HS; have HS := Lib.hid HT.out.1; have HM := Lib.hid HT.out.2; clear HT; (try (have HA2 := Lib.hid (And.intro (HA.out.1.alloc (.cells (arrv 6 (sideV (v2L XX LL))) 41)) HA.out.2); clear HA; have HA := HA2; clear HA2))
        clear hHeld
        refine hK.out _ _ ?_ (fun hHeld => ?_)
        · exact ⟨HS.out.s, HS.out.ex1, HS.out.ex0⟩
        clear hK K
        (try simp only [Act.put, nA, nB, nC])
        refine wpAnyM_oneS 12 rfl (by kernel_rfl) (fun K hK => ?_)
        go_simp
        (refine (XC.out _ _ HS.out.cell HS.out.free HM.out).mono ?_); rintro e w14 ⟨rfl, hu⟩; clear HM; have hcl := HS.out.cell; have hcb := HS.out.cb; have hlm := HS.out.lim; have HS2 := Lib.hid (HS.out.upd' hu); clear HS; have HS := HS2; clear HS2; (try (have HA2 := Lib.hid (And.intro (HA.out.1.upd hu (by have := HA.out.2; omega)) HA.out.2); clear HA; have HA := HA2; clear HA2)); (try (have HL2 := Lib.hid (HL.out.upd hcl hu); clear HL; have HL := HL2; clear HL2)); (try (have HM2 := Lib.hid (HM.out.upd hcl hu); clear HM; have HM := HM2; clear HM2)); clear hu hcl hcb hlm
        (try dsimp only)
        (try simp only [Act.put, nA, nB, nC])
        clear hHeld
        refine hK.out _ _ ?_ (fun hHeld => ?_)
        · exact ⟨HS.out.s, HS.out.ex1, HS.out.ex0⟩
        clear hK K
        (try simp only [Act.put, nA, nB, nC])
        refine wpAnyM_one 14 rfl (by kernel_rfl) (fun K hK => ?_)
        refine if_pos_of rfl ?_; refine wp_of_run (run_store_row 41 (.tmp 12) (.tmp 61) rfl _ rfl rfl HA.out.1 iv3) ?_
        refine hK.out _ _ (.inl (by kernel_rfl)) (fun _ => ?_)
        clear hK K
        (try simp only [Act.put, nA, nB, nC])
        refine wpAnyM_done (by kernel_rfl) ?_ _
        (go_wp2_with fail; go_meet; exact ⟨_, rfl, Lib.hid (HS.out.put HA.out.1 HA.out.2 YY)⟩)
  case rest =>
  obtain ⟨xb, rfl, HB⟩ := hcut
  clear HS MC LC XC
  go_upto_region 8 with fail
  have HS := Lib.hid HB.out.drew
  clear HB
  refine wp_region_M (fun w' => Blk w' w.heap.size 30 24 KS) 3 (by kernel_rfl) ?_ (fun hHeld => ?_)
  · exact HS.out.s
  refine wpAnyM_take 0 (v := ?_) rfl (by kernel_rfl) (fun _ _ _ h => h) (Or.inl ⟨by rfl, ?_⟩) (by assumption) ?_
  rotate_left
  · (intro wx hSw; refine Eq.trans (run_load_row 30 (.tmp 4) (by rfl) (w.heap.size) (by rfl) _ _ _ _ (hSw) Try.underlying30 rfl (ist.trans (by rw [arrv_size]))) ?_; with_reducible rfl)
  (try simp only [Act.put, nA, nB, nC])
  refine wpAnyM_take 1 (v := ?_) rfl (by kernel_rfl) (fun _ _ _ h => h) (Or.inl ⟨by rfl, ?_⟩) (by assumption) ?_
  rotate_left
  · (intro wx hSw; (try dsimp only at hSw); go_simp; (try with_reducible rfl))
  (try simp only [Act.put, nA, nB, nC])
  refine wpAnyM_oneS 2 rfl (by kernel_rfl) (fun K hK => ?_)
  go_simp
  (refine (swith_any KS 0 (some ⟨qb, 0, none⟩) 4 4 QU _ (by decide) (by decide) (by decide) (slc_blk HS.out.ex3)).mono ?_); (rw [HW.out.1]); rintro e w28 ⟨rfl, hb⟩; have HT := Lib.hid (HS.out.down hb); clear HS hb; have HS := HT; clear HT
  (try dsimp only)
  (try simp only [Act.put, nA, nB, nC])
  clear hHeld
  refine hK.out _ _ ?_ (fun hHeld => ?_)
  · exact HS.out.s
  clear hK K
  (try simp only [Act.put, nA, nB, nC])
  refine wpAnyM_one 3 rfl (by kernel_rfl) (fun K hK => ?_)
  go_simp; rw [if_pos (arrv_size _ _), run_storeCells_row _ HS.out.s]; go_simp
  refine hK.out _ _ (.inl (by kernel_rfl)) (fun _ => ?_)
  clear hK K
  (try simp only [Act.put, nA, nB, nC])
  refine wpAnyM_done (by kernel_rfl) ?_ _
  have HB := Lib.hid (HS.out.rowS S1)
  generalize w28.setRow w.heap.size (arrv 24 S1) = W28 at *
  clear HS
  go_upto_region 9 with fail
  have HS := Lib.hid HB.out.drew
  clear HB
  refine wp_region_M (fun w' => Blk w' w.heap.size 30 24 S1) 3 (by kernel_rfl) ?_ (fun hHeld => ?_)
  · exact HS.out.s
  refine wpAnyM_take 0 (v := ?_) rfl (by kernel_rfl) (fun _ _ _ h => h) (Or.inl ⟨by rfl, ?_⟩) (by assumption) ?_
  rotate_left
  · (intro wx hSw; refine Eq.trans (run_load_row 30 (.tmp 4) (by rfl) (w.heap.size) (by rfl) _ _ _ _ (hSw) Try.underlying30 rfl (ist.trans (by rw [arrv_size]))) ?_; with_reducible rfl)
  (try simp only [Act.put, nA, nB, nC])
  refine wpAnyM_take 1 (v := ?_) rfl (by kernel_rfl) (fun _ _ _ h => h) (Or.inl ⟨by rfl, ?_⟩) (by assumption) ?_
  rotate_left
  · (intro wx hSw; (try dsimp only at hSw); go_simp; (try with_reducible rfl))
  (try simp only [Act.put, nA, nB, nC])
  refine wpAnyM_oneS 2 rfl (by kernel_rfl) (fun K hK => ?_)
  go_simp
  (refine (swith_any S1 4 (some ⟨nb, 0, none⟩) 3 3 NN _ (by decide) (by decide) (by decide) (slc_blk HS.out.ex1)).mono ?_); (rw [HW.out.2.1]); rintro e w29 ⟨rfl, hb⟩; have HT := Lib.hid (HS.out.down hb); clear HS hb; have HS := HT; clear HT
  (try dsimp only)
  (try simp only [Act.put, nA, nB, nC])
  clear hHeld
  refine hK.out _ _ ?_ (fun hHeld => ?_)
  · exact HS.out.s
  clear hK K
  (try simp only [Act.put, nA, nB, nC])
  refine wpAnyM_one 3 rfl (by kernel_rfl) (fun K hK => ?_)
  go_simp; rw [if_pos (arrv_size _ _), run_storeCells_row _ HS.out.s]; go_simp
  refine hK.out _ _ (.inl (by kernel_rfl)) (fun _ => ?_)
  clear hK K
  (try simp only [Act.put, nA, nB, nC])
  refine wpAnyM_done (by kernel_rfl) ?_ _
  have HB := Lib.hid (HS.out.rowS S2)
  generalize w29.setRow w.heap.size (arrv 24 S2) = W29 at *
  clear HS
  go_upto_region 10 with fail
  have HS := Lib.hid HB.out.drew
  clear HB
  refine wp_region_M (fun w' => Blk w' w.heap.size 30 24 S2) 3 (by kernel_rfl) ?_ (fun hHeld => ?_)
  · exact HS.out.s
  refine wpAnyM_take 0 (v := ?_) rfl (by kernel_rfl) (fun _ _ _ h => h) (Or.inl ⟨by rfl, ?_⟩) (by assumption) ?_
  rotate_left
  · (intro wx hSw; refine Eq.trans (run_load_row 30 (.tmp 4) (by rfl) (w.heap.size) (by rfl) _ _ _ _ (hSw) Try.underlying30 rfl (ist.trans (by rw [arrv_size]))) ?_; with_reducible rfl)
  (try simp only [Act.put, nA, nB, nC])
  refine wpAnyM_take 1 (v := ?_) rfl (by kernel_rfl) (fun _ _ _ h => h) (Or.inl ⟨by rfl, ?_⟩) (by assumption) ?_
  rotate_left
  · (intro wx hSw; (try dsimp only at hSw); go_simp; (try with_reducible rfl))
  (try simp only [Act.put, nA, nB, nC])
  refine wpAnyM_oneS 2 rfl (by kernel_rfl) (fun K hK => ?_)
  go_simp
  (refine (swith_any S2 7 (some ⟨xb, 0, none⟩) 3 3 YY _ (by decide) (by decide) (by decide) (slc_blk HS.out.ex0)).mono ?_); (rw [HW.out.2.2]); rintro e w210 ⟨rfl, hb⟩; have HT := Lib.hid (HS.out.down hb); clear HS hb; have HS := HT; clear HT
  (try dsimp only)
  (try simp only [Act.put, nA, nB, nC])
  clear hHeld
  refine hK.out _ _ ?_ (fun hHeld => ?_)
  · exact HS.out.s
  clear hK K
  (try simp only [Act.put, nA, nB, nC])
  refine wpAnyM_one 3 rfl (by kernel_rfl) (fun K hK => ?_)
  go_simp; rw [if_pos (arrv_size _ _), run_storeCells_row _ HS.out.s]; go_simp
  refine hK.out _ _ (.inl (by kernel_rfl)) (fun _ => ?_)
  clear hK K
  (try simp only [Act.put, nA, nB, nC])
  refine wpAnyM_done (by kernel_rfl) ?_ _
  have HB := Lib.hid (HS.out.rowS S3)
  generalize w210.setRow w.heap.size (arrv 24 S3) = W210 at *
  clear HS
  have P0 := HB.out.s
  go_wp2_with (first | (refine wpList_load_row rfl 30 _ rfl (w.heap.size) rfl 30 _ (0, 0) _ (P0) Try.underlying30 rfl (ist.trans (by rw [arrv_size])) ?_) | (go_at_call 27; (refine (EC.out _ HB.out.cell HB.out.free).mono ?_); rintro e w3 ⟨rfl, hu1⟩; have HT := Lib.hid (HB.out.upd' hu1); have P1 := HT.out.r; clear hu1 HB EC P0) | (refine wpList_store_row rfl 30 _ _ rfl (w.heap.size + 1 + 1) _ rfl rfl 30 _ (P1) (ist.trans (by rw [arrv_size])) (by rw [arrv_size, arrv_size]) (oneCell_arrv _ _) ?_))
  refine bodyPost_ret (results_cell_row Try.results19 _ _ (w.heap.size + 1 + 1) 30 (arrv 24 RR) (0, 0) _ rfl (setRow_heap _ _ _ _ _ _ P1) Try.underlying30 rfl (ist.trans (by rw [arrv_size]))) rfl ⟨by rw [HE.out.1], ?_⟩
  rw [HE.out.2]
  exact HT.out.upd.then' (below_row (Below.refl _ _) (by omega) _)
end Go.Proofs.Ytanmddenleffaaa
