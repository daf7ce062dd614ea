/- Contracts of the program's functions and plain laws, part 9: they hold for all arguments. -/
import Derived.Test.YtcombidoaghlbaaQ08
import Derived.Test.YtcombidoaghlbaaQ04
import Derived.OpenShut
import Derived.ProofKit
import Derived.Test.YtcombidoaghlbaaQ06
import Derived.Carry
/- The covariance that is carried on is F P F' + Q, within a little (plain law of ThorntonClose). No program beyond the numbers' names. -/
namespace Go.Proofs.Ytcombidoaghlbaa
theorem sg_swap (g : Nat → Nat → Int) (n : Nat) : ∀ m, sg (fun a => sg (fun k => g a k) n) m = sg (fun k => sg (fun a => g a k) m) n
  | 0 => by
    show (0 : Int) = sg (fun k => (0 : Int)) n
    rw [sg_const]; simp
  | m + 1 => by
    show sg (fun a => sg (fun k => g a k) n) m + sg (fun k => g m k) n = sg (fun k => sg (fun a => g a k) m + g m k) n
    rw [sg_swap g n m, sg_add]
theorem sg_app (f : Nat → Int) (a : Nat) : ∀ b, sg f (a + b) = sg f a + sg (fun k => f (a + k)) b
  | 0 => by simp [sg]
  | b + 1 => by
    show sg f (a + b) + f (a + b) = sg f a + (sg (fun k => f (a + k)) b + f (a + b))
    rw [sg_app f a b]; omega
theorem sg_mulr (c : Int) (f : Nat → Int) (n : Nat) : sg (fun k => f k * c) n = sg f n * c := by
  rw [show (fun k => f k * c) = (fun k => c * f k) from funext fun k => Int.mul_comm _ _, sg_mul, Int.mul_comm]
theorem ab_mul_le {x y X Y : Int} (hx : ab x ≤ X) (hy : ab y ≤ Y) : ab (x * y) ≤ X * Y := by
  rw [ab_mul]
  have := (ab_bd x).1
  have := (ab_bd y).1
  exact Int.mul_le_mul hx hy (by omega) (by omega)
/-- A row's number, by its square and the weight. -/
theorem ent_of_gr {a e : Nat → Int} (he : WtB e) (hg : gr a a e ≤ 50706024009129176059868128215040) {k : Nat} (hk : k < 48) (hw : 17179869184 ≤ e k) : ab (a k) ≤ 54760833024 := by
  have h1 : a k * a k * e k ≤ gr a a e := sg_one (f := fun k => a k * a k * e k) hk fun k hk => Int.mul_nonneg (sq_nn _) (he k hk).1
  refine Decidable.byContradiction fun hc => ?_
  have h2 : ab (a k) * ab (a k) = a k * a k := by
    rcases (show ab (a k) = a k ∨ ab (a k) = -(a k) by unfold ab; omega) with h | h <;> rw [h]
    exact Int.neg_mul_neg _ _
  have h3 : (54760833024 : Int) * 54760833024 ≤ ab (a k) * ab (a k) := Int.mul_le_mul (by omega) (by omega) (by decide) (ab_bd _).1
  rw [h2] at h3
  have h4 : (54760833024 : Int) * 54760833024 * 17179869184 ≤ a k * a k * e k := Int.mul_le_mul h3 hw (by decide) (sq_nn _)
  omega
/-- The factors, the matrix, the noise. -/
structure ClH (p F q : Nat → Int) : Prop where
  u : ∀ x, x < 276 → ab (p x) ≤ 268435455
  d : ∀ i, i < 24 → 17179869184 ≤ p (276 + i) ∧ p (276 + i) ≤ 8813272891391
  f : ∀ i m, i < 24 → m < 24 → ab (F (i * 24 + m) - (if i = m then 1073741824 else 0)) ≤ 16777215
  q : ∀ i, i < 24 → 17179869184 ≤ q i ∧ q i ≤ 566935683071
section
variable {p F q : Nat → Int} (C : ClH p F q)
include C
theorem ClH.uv {a k : Nat} (hk : k < 24) : ab (uV p a k) ≤ if a = k then 1073741824 else 268435455 := by
  by_cases h : a = k
  · subst h; rw [uV_self, if_pos rfl]; decide
  · rw [if_neg h]
    by_cases h2 : a < k
    · rw [uV_up h2]; exact C.u _ (pl_lt h2 hk)
    · rw [uV_low (by omega)]; decide
theorem ClH.uv1 {a k : Nat} (hk : k < 24) : ab (uV p a k) ≤ 1073741824 := by
  have := C.uv (a := a) hk
  split at this <;> omega
theorem ClH.cond : (∀ x, x < 300 → condF p x = p x) ∧ condH p = false := by
  constructor
  · intro x hx
    unfold condF
    split
    · next h => exact satV_sb (sb_ab (C.u x h) (by decide))
    · next h =>
      have := C.d (x - 276) (by omega)
      rw [show 276 + (x - 276) = x by omega] at this
      exact (cl_varV (by omega) (by omega)).1
  · unfold condH
    rw [cl_orB, cl_orB]; rfl
    · intro i hi; exact satH_sb (sb_ab (C.u i hi) (by decide))
    · intro i hi; have := C.d i hi; exact (cl_varV (by omega) (by omega)).2
theorem ClH.fsb {i m : Nat} (hi : i < 24) (hm : m < 24) : ab (F (i * 24 + m)) ≤ (if i = m then 1073741824 else 0) + 16777215 := by
  have := C.f i m hi hm
  by_cases h : i = m
  · rw [if_pos h] at this ⊢
    have a := ab_bd (F (i * 24 + m) - 1073741824)
    exact le_ab (by omega)
  · rw [if_neg h] at this ⊢
    have a := ab_bd (F (i * 24 + m) - 0)
    exact le_ab (by omega)
theorem ClH.fs {x : Nat} (hx : x < 576) : satV (F x) = F x ∧ satH (F x) = false := by
  have := C.fsb (i := x / 24) (m := x % 24) (by omega) (by omega)
  rw [show x / 24 * 24 + x % 24 = x by omega] at this
  have s : SB (F x) := by split at this <;> exact sb_ab this (by decide)
  exact ⟨satV_sb s, satH_sb s⟩
/-- The exact product of the matrix and U. -/
def clC (p F : Nat → Int) (i k : Nat) : Int := sg (fun m => F (i * 24 + m) * uV p m k) 24
theorem ClH.c_near {i k : Nat} (hi : i < 24) (hk : k < 24) : ab (clC p F i k - 1073741824 * uV p i k) ≤ 16777215 * 7247757289 := by
  have e1 : clC p F i k - 1073741824 * uV p i k = sg (fun m => (F (i * 24 + m) - (if i = m then 1073741824 else 0)) * uV p m k) 24 := by
    have : sg (fun m => (if i = m then 1073741824 else 0) * uV p m k) 24 = 1073741824 * uV p i k := by
      rw [sg_only hi fun m _ hm => by rw [if_neg (by omega), Int.zero_mul], if_pos rfl]
    have h2 : clC p F i k = sg (fun m => (F (i * 24 + m) - (if i = m then 1073741824 else 0)) * uV p m k) 24 + sg (fun m => (if i = m then 1073741824 else 0) * uV p m k) 24 := by
      unfold clC
      rw [← sg_add]
      exact sg_congr fun m _ => by grind
    omega
  rw [e1]
  refine Int.le_trans (sg_bd fun m hm => C.f i m hi hm) (Int.mul_le_mul_of_nonneg_left ?_ (by decide))
  have h := sg_le (f := fun m => ab (uV p m k)) (g := fun m => 268435455 + (if m = k then 805306369 else 0)) (n := 24) fun m _ => by
    have := C.uv (a := m) hk
    split at this <;> split <;> omega
  rw [sg_add, sg_const, sg_only hk fun m _ hm => if_neg hm, if_pos rfl] at h
  omega
theorem ClH.c_bd {i k : Nat} (hi : i < 24) (hk : k < 24) : ab (clC p F i k) ≤ 1073741824 * (if i = k then 1186988034 else 381681666) := by
  have a := C.c_near hi hk
  have b := C.uv (a := i) hk
  have c := ab_bd (clC p F i k - 1073741824 * uV p i k)
  have d := ab_bd (uV p i k)
  split at b <;> exact le_ab (by omega)
theorem ClH.w_left {i k : Nat} (hi : i < 24) (hk : k < 24) : stepW p F (i * 48 + k) = rsh (clC p F i k) 30 ∧ rwB (condF p) (fS F 24 0) i k = false := by
  have e1 : (i * 48 + k) / 48 = i := by omega
  have e2 : (i * 48 + k) % 48 = k := by omega
  have eF : ∀ m, m < 24 → rowF 24 (fS F 24 0) i m = F (i * 24 + m) := fun m hm => by
    have : (i * 24 + m) / 24 = i := by omega
    unfold rowF fS
    rw [this, if_pos (.inl hi)]; exact (C.fs (by omega)).1
  have eU : ∀ m, m < 24 → colF (condF p) k m = uV p m k := fun m hm => by
    unfold colF
    split
    · next h =>
      by_cases h2 : m = k
      · subst h2; rw [uV_self, uV_self]
      · rw [uV_up (by omega), uV_up (by omega), C.cond.1 _ (by have := pl_lt (i := m) (j := k) (by omega) hk; omega)]
    · rw [uV_low (by omega)]
  have hs : sg (fun m => rowF 24 (fS F 24 0) i m * colF (condF p) k m) 24 = clC p F i k := sg_congr fun m hm => by rw [eF m hm, eU m hm]
  have c := C.c_bd hi hk
  have r : ab (rsh (clC p F i k) 30) ≤ 1186988034 := rsh_ab (Int.le_trans c (by split <;> decide))
  have dv := dotV_sg (A := rowF 24 (fS F 24 0) i) (B := colF (condF p) k) (n := 24) (fun m hm => by
    rw [eF m hm, eU m hm]
    have a := C.fsb hi hm
    have b := C.uv1 (a := m) hk
    refine ⟨?_, sb_ab b (by decide)⟩
    split at a <;> exact sb_ab a (by decide)) (by rw [hs]; exact sb_ab r (by decide))
  rw [hs] at dv
  unfold stepW rowsW rwB
  rw [e1, e2, if_pos hk]
  exact dv
omit C in
theorem cl_right {i m : Nat} (hi : i < 24) (hm : m < 24) : stepW p F (i * 48 + (24 + m)) = if m = i then 1073741824 else 0 := by
  have e1 : (i * 48 + (24 + m)) / 48 = i := by omega
  have e2 : (i * 48 + (24 + m)) % 48 = 24 + m := by omega
  unfold stepW rowsW
  rw [e1, e2, if_neg (by omega)]
  by_cases h : m = i
  · rw [if_pos (by omega), if_pos h]
  · rw [if_neg (by omega), if_neg h]
theorem ClH.e_left {k : Nat} (hk : k < 24) : stepE p q k = p (276 + k) := by
  unfold stepE eS
  rw [if_pos hk, C.cond.1 _ (by omega)]
theorem ClH.e_right {k : Nat} (hk : k < 24) : stepE p q (24 + k) = q k := by
  have := C.q k hk
  unfold stepE eS
  rw [if_neg (by omega), if_pos (by omega), show 24 + k - 24 = k by omega]
  exact (qV_id (by omega) (by omega)).1
theorem ClH.wt : WtB (stepE p q) := fun k hk => by
  by_cases h : k < 24
  · rw [C.e_left h]; have := C.d k h; omega
  · obtain ⟨m, rfl⟩ : ∃ m, k = 24 + m := ⟨k - 24, by omega⟩
    rw [C.e_right (by omega)]; have := C.q m (by omega); omega
theorem ClH.wt_big {k : Nat} (hk : k < 48) : 17179869184 ≤ stepE p q k := by
  by_cases h : k < 24
  · rw [C.e_left h]; exact (C.d k h).1
  · obtain ⟨m, rfl⟩ : ∃ m, k = 24 + m := ⟨k - 24, by omega⟩
    rw [C.e_right (by omega)]; exact (C.q m (by omega)).1
theorem ClH.g_own {i : Nat} (hi : i < 24) : gr (rowF 48 (stepW p F) i) (rowF 48 (stepW p F) i) (stepE p q) ≤ 50700000000000000000000000000000 := by
  have key : ∀ k, k < 48 → rowF 48 (stepW p F) i k * rowF 48 (stepW p F) i k * stepE p q k ≤ (if k = i then 12420000000000000000000000000000 else 0) + ((if k = 24 + i then 660000000000000000000000000000 else 0) + (if k < 24 then 1290000000000000000000000000000 else 0)) := by
    intro k hk
    unfold rowF
    have sq : ∀ x : Int, x * x = ab x * ab x := fun x => by
      rcases (show ab x = x ∨ ab x = -x by unfold ab; omega) with h | h <;> rw [h]
      exact (Int.neg_mul_neg _ _).symm
    have e0 := (C.wt k hk).1
    by_cases h : k < 24
    · have c := C.c_bd hi h
      have b := rsh_ab c
      rw [← (C.w_left hi h).1] at b
      have d := C.d k h
      rw [C.e_left h, sq]
      rw [if_neg (show ¬ k = 24 + i by omega), if_pos h]
      by_cases h2 : k = i
      · rw [if_pos h2]
        rw [if_pos h2.symm] at b
        have m1 := Int.mul_le_mul b b (ab_bd _).1 (by decide)
        have m2 := Int.mul_le_mul m1 d.2 (by omega) (by decide)
        omega
      · rw [if_neg h2]
        rw [if_neg (Ne.symm h2)] at b
        have m1 := Int.mul_le_mul b b (ab_bd _).1 (by decide)
        have m2 := Int.mul_le_mul m1 d.2 (by omega) (by decide)
        omega
    · obtain ⟨m, rfl⟩ : ∃ m, k = 24 + m := ⟨k - 24, by omega⟩
      have d := C.q m (by omega)
      rw [cl_right hi (by omega), C.e_right (by omega), if_neg (show ¬ 24 + m = i by omega), if_neg h]
      by_cases h2 : m = i
      · rw [if_pos h2, if_pos (by omega)]; omega
      · rw [if_neg h2, if_neg (by omega)]; omega
  have s := sg_le key
  rw [sg_add, sg_add, sg_only (show i < 48 by omega) (fun k _ h => if_neg h), sg_only (show 24 + i < 48 by omega) (fun k _ h => if_neg h), if_pos rfl, if_pos rfl] at s
  have e3 : sg (fun k => if k < 24 then (1290000000000000000000000000000 : Int) else 0) 48 = 24 * 1290000000000000000000000000000 := by decide
  rw [e3] at s
  exact Int.le_trans s (by decide)
/-- The noise's numbers in the rows: One in its own, nothing behind. -/
def RgtP (W e : Nat → Int) (n : Nat) : Prop := ∀ m, m < 24 → WN W e n (m * 48 + (24 + m)) = 1073741824 ∧ ∀ i, m < i → i < 24 → WN W e n (i * 48 + (24 + m)) = 0
omit C in
theorem rgt_step {W e : Nat → Int} {n : Nat} (hn : n < 24) (p : RgtP W e n) (S : StO (WN W e n) e (23 - n)) : RgtP W e (n + 1) := by
  intro m hm
  have key : ∀ i, m ≤ i → i < 24 → WN W e (n + 1) (i * 48 + (24 + m)) = WN W e n (i * 48 + (24 + m)) := by
    intro i hmi hi
    show elW (WN W e n) e (23 - n) (23 - n) 0 (i * 48 + (24 + m)) = _
    by_cases h : i < 23 - n
    · rw [S.w i h _ (by omega), (p m hm).2 (23 - n) (by omega) (by omega), Int.mul_zero, show rsh 0 30 = 0 by decide, Int.sub_zero]
    · exact row_ge (by omega) (by omega)
  exact ⟨by rw [key m (Nat.le_refl _) hm]; exact (p m hm).1, fun i h1 h2 => by rw [key i (by omega) h2]; exact (p m hm).2 i h1 h2⟩
theorem ClH.run : RunH (stepW p F) (stepE p q) (RgtP (stepW p F) (stepE p q)) where
  he := C.wt
  p0 := fun m hm => ⟨by show stepW p F _ = _; rw [cl_right hm hm, if_pos rfl], fun i h1 h2 => by show stepW p F _ = _; rw [cl_right h2 hm, if_neg (by omega)]⟩
  g := fun i hi => C.g_own hi
  hN := fun n hn _ hg i hi => by
    have h := sg_le (f := fun k => ab (WN (stepW p F) (stepE p q) n (i * 48 + k))) (g := fun _ => 54760833024) (n := 48) fun k hk => ent_of_gr (a := rowF 48 (WN (stepW p F) (stepE p q) n) i) C.wt (hg i hi) hk (C.wt_big hk)
    rw [sg_const] at h
    omega
  hS := fun n hn p => .inl ⟨24 + (23 - n), by omega, (p (23 - n) (by omega)).1, C.wt_big (by omega)⟩
  hP := fun n hn p _ S => rgt_step hn p S
theorem ClH.flag : stepH p F q = false := by
  unfold stepH
  have h1 : loop1H q F 24 = false := by
    unfold loop1H row1H
    refine cl_orB fun i hi => ?_
    have := C.q i hi
    rw [(qV_id (a := q i) (by omega) (by omega)).2, cl_orB fun k hk => (C.fs (by omega)).2]; rfl
  have h2 : rowsH (condF p) (fS F 24 0) = false := by
    unfold rowsH rwH
    exact cl_orB fun k hk => cl_orB fun i hi => (C.w_left hi hk).2
  rw [C.cond.2, h1, h2, (C.run.all 24 (Nat.le_refl _)).2.flag]; rfl
/-- The exact product of the rows: F P F' + Q. -/
theorem ClH.gr_eq {i j : Nat} (hi : i < 24) (hj : j < 24) : ab (1152921504606846976 * (gr (rowF 48 (stepW p F) i) (rowF 48 (stepW p F) j) (stepE p q) - (if i = j then 1152921504606846976 * q i else 0)) - sg (fun a => F (i * 24 + a) * sg (fun b => F (j * 24 + b) * PP p a b) 24) 24) ≤ 400000000000000000000000000000000000000000 := by
  have e1 : gr (rowF 48 (stepW p F) i) (rowF 48 (stepW p F) j) (stepE p q) = sg (fun k => rsh (clC p F i k) 30 * rsh (clC p F j k) 30 * p (276 + k)) 24 + (if i = j then 1152921504606846976 * q i else 0) := by
    unfold gr
    rw [show (48 : Nat) = 24 + 24 from rfl, sg_app]
    congr 1
    · exact sg_congr fun k hk => by show stepW p F (i * 48 + k) * stepW p F (j * 48 + k) * _ = _; rw [(C.w_left hi hk).1, (C.w_left hj hk).1, C.e_left hk]
    · by_cases h : i = j
      · rw [if_pos h, sg_only hi fun m hm hne => by show stepW p F (i * 48 + (24 + m)) * _ * _ = _; rw [cl_right hi hm, if_neg hne, Int.zero_mul, Int.zero_mul]]
        show stepW p F (i * 48 + (24 + i)) * stepW p F (j * 48 + (24 + i)) * _ = _
        rw [cl_right hi hi, cl_right hj hi, if_pos rfl, if_pos h, C.e_right hi]
        rfl
      · rw [if_neg h]
        refine sg_zero fun m hm => ?_
        show stepW p F (i * 48 + (24 + m)) * stepW p F (j * 48 + (24 + m)) * _ = _
        rw [cl_right hi hm, cl_right hj hm]
        by_cases h2 : m = i
        · rw [if_neg (show ¬ m = j by omega), Int.mul_zero, Int.zero_mul]
        · rw [if_neg h2, Int.zero_mul, Int.zero_mul]
  have e2 : sg (fun a => F (i * 24 + a) * sg (fun b => F (j * 24 + b) * PP p a b) 24) 24 = sg (fun k => clC p F i k * clC p F j k * p (276 + k)) 24 := by
    have s1 : ∀ a, a < 24 → F (i * 24 + a) * sg (fun b => F (j * 24 + b) * PP p a b) 24 = sg (fun k => F (i * 24 + a) * uV p a k * (clC p F j k * p (276 + k))) 24 := by
      intro a ha
      have s2 : sg (fun b => F (j * 24 + b) * PP p a b) 24 = sg (fun k => uV p a k * (clC p F j k * p (276 + k))) 24 := by
        unfold PP clC
        rw [show (fun b => F (j * 24 + b) * sg (fun k => uV p a k * uV p b k * p (276 + k)) 24) = (fun b => sg (fun k => F (j * 24 + b) * (uV p a k * uV p b k * p (276 + k))) 24) from funext fun b => (sg_mul _ _ _).symm, sg_swap]
        refine sg_congr fun k _ => ?_
        rw [← sg_mulr, ← sg_mul]
        exact sg_congr fun b _ => by grind
      rw [s2, ← sg_mul]
      exact sg_congr fun k _ => by rw [Int.mul_assoc]
    rw [sg_congr s1, sg_swap]
    refine sg_congr fun k _ => ?_
    rw [sg_mulr, Int.mul_assoc]
    rfl
  rw [e1, e2, Int.add_sub_cancel]
  have e3 : 1152921504606846976 * sg (fun k => rsh (clC p F i k) 30 * rsh (clC p F j k) 30 * p (276 + k)) 24 - sg (fun k => clC p F i k * clC p F j k * p (276 + k)) 24 = sg (fun k => (1152921504606846976 * (rsh (clC p F i k) 30 * rsh (clC p F j k) 30) - clC p F i k * clC p F j k) * p (276 + k)) 24 := by
    have : sg (fun k => (1152921504606846976 * (rsh (clC p F i k) 30 * rsh (clC p F j k) 30) - clC p F i k * clC p F j k) * p (276 + k)) 24 + sg (fun k => clC p F i k * clC p F j k * p (276 + k)) 24 = 1152921504606846976 * sg (fun k => rsh (clC p F i k) 30 * rsh (clC p F j k) 30 * p (276 + k)) 24 := by
      rw [← sg_mul, ← sg_add]
      exact sg_congr fun k _ => by grind
    omega
  rw [e3]
  have b1 : ∀ k, k < 24 → ab (1152921504606846976 * (rsh (clC p F i k) 30 * rsh (clC p F j k) 30) - clC p F i k * clC p F j k) ≤ 1400000000000000000000000000 := by
    intro k hk
    have x1 := C.c_bd hi hk
    have x2 := C.c_bd hj hk
    have r1 := rsh_two (clC p F i k)
    have r2 := rsh_two (clC p F j k)
    obtain ⟨c, hc⟩ : ∃ c, clC p F i k = c := ⟨_, rfl⟩
    obtain ⟨d, hd⟩ : ∃ d, clC p F j k = d := ⟨_, rfl⟩
    rw [hc] at x1 r1 ⊢
    rw [hd] at x2 r2 ⊢
    obtain ⟨r, hr⟩ : ∃ r, rsh c 30 = r := ⟨_, rfl⟩
    obtain ⟨s, hs⟩ : ∃ s, rsh d 30 = s := ⟨_, rfl⟩
    rw [hr] at r1 ⊢
    rw [hs] at r2 ⊢
    have q1 : ab c ≤ 1274518698021224448 + 1000000000 := by split at x1 <;> omega
    have q2 : ab d ≤ 1274518698021224448 + 1000000000 := by split at x2 <;> omega
    have e4 : 1152921504606846976 * (r * s) - c * d = (1073741824 * r - c) * d + c * (1073741824 * s - d) + (1073741824 * r - c) * (1073741824 * s - d) := by grind
    have m1 := ab_mul_le (show ab (1073741824 * r - c) ≤ 536870912 by omega) q2
    have m2 := ab_mul_le q1 (show ab (1073741824 * s - d) ≤ 536870912 by omega)
    have m3 := ab_mul_le (show ab (1073741824 * r - c) ≤ 536870912 by omega) (show ab (1073741824 * s - d) ≤ 536870912 by omega)
    rw [e4]
    have t1 := ab_add ((1073741824 * r - c) * d + c * (1073741824 * s - d)) ((1073741824 * r - c) * (1073741824 * s - d))
    have t2 := ab_add ((1073741824 * r - c) * d) (c * (1073741824 * s - d))
    omega
  refine Int.le_trans (sg_bd b1) ?_
  have h := sg_le (f := fun k => ab (p (276 + k))) (g := fun _ => 8813272891391) (n := 24) fun k hk => by
    have := C.d k hk
    exact le_ab (by omega)
  rw [sg_const] at h
  omega
end
end Go.Proofs.Ytcombidoaghlbaa
/- The covariance that is carried on is F P F' + Q, within a little: as the law reckons it (plain law of ThorntonClose). No program beyond the numbers' names. -/
namespace Go.Proofs.Ytcombidoaghlbaa
section
variable {p F q : Nat → Int} (C : ClH p F q)
include C
theorem ClH.pp_bd (a b : Nat) : ab (PP p a b) ≤ 243864361133750000000000000000000 := by
  have h := sg_bd (x := fun k => uV p a k * uV p b k) (y := fun k => p (276 + k)) (m := 1152921504606846976) (n := 24) fun k hk => Int.le_trans (ab_mul_le (C.uv1 hk) (C.uv1 hk)) (by decide)
  refine Int.le_trans h ?_
  have h := sg_le (f := fun k => ab (p (276 + k))) (g := fun _ => 8813272891391) (n := 24) fun k hk => by
    have := C.d k hk
    exact le_ab (by omega)
  rw [sg_const] at h
  omega
theorem ClH.at_p {a b : Nat} (ha : a < 24) (hb : b < 24) : ab (1152921504606846976 * atV p a b - PP p a b) ≤ 14411518807585587200 ∧ atH p a b = false ∧ ab (atV p a b) ≤ 212000000000000 := by
  have h := at_pp (f := p) ha hb (fun a k _ hk => C.uv1 hk) (by decide) (fun k hk => by have := C.d k hk; omega) (Int.le_trans (C.pp_bd a b) (by decide))
  have h2 := C.pp_bd a b
  have c := ab_bd (1152921504606846976 * atV p a b - PP p a b)
  have d := ab_bd (PP p a b)
  exact ⟨by omega, h.2, le_ab (by omega)⟩
theorem ClH.f_sum {i : Nat} (hi : i < 24) : sg (fun m => ab (F (i * 24 + m))) 24 ≤ 1476394984 := by
  have h := sg_le (f := fun m => ab (F (i * 24 + m))) (g := fun m => 16777215 + (if m = i then 1073741824 else 0)) (n := 24) fun m hm => by
    have := C.fsb hi hm
    by_cases h : i = m
    · rw [if_pos h] at this; rw [if_pos h.symm]; omega
    · rw [if_neg h] at this; rw [if_neg (Ne.symm h)]; omega
  rw [sg_add, sg_const, sg_only hi fun m _ hm => if_neg hm, if_pos rfl] at h
  omega
omit C in
theorem sg_bd2 {x y : Nat → Int} {m s : Int} {n : Nat} (hm : 0 ≤ m) (h : ∀ k, k < n → ab (x k) ≤ m) (hs : sg (fun k => ab (y k)) n ≤ s) : ab (sg (fun k => x k * y k) n) ≤ m * s :=
  Int.le_trans (sg_bd h) (Int.mul_le_mul_of_nonneg_left hs hm)
/-- The law's first sums: P times a row of F. -/
def clX (p F : Nat → Int) (j a : Nat) : Int := dotV 30 (fun b => atV p a b) (rowF 24 F j) 24
def clQ (p F : Nat → Int) (j a : Nat) : Int := sg (fun b => F (j * 24 + b) * PP p a b) 24
theorem ClH.x_err {j a : Nat} (hj : j < 24) (ha : a < 24) : ab (1237940039285380274899124224 * clX p F j a - clQ p F j a) ≤ 22000000000000000000000000000 ∧ dotH 30 (fun b => atV p a b) (rowF 24 F j) 24 = false ∧ ab (clX p F j a) ≤ 293000000000000 := by
  have hf := C.f_sum hj
  have s1 := sg_bd2 (by decide) (fun b hb => (C.at_p ha hb).2.2) hf
  have r1 := rsh_ab (m := 293000000000000) (Int.le_trans s1 (by decide))
  have dv := dotV_sg (A := fun b => atV p a b) (B := rowF 24 F j) (n := 24) (fun b hb => ⟨sb_ab (C.at_p ha hb).2.2 (by decide), by
    have := C.fsb hj hb
    unfold rowF
    split at this <;> exact sb_ab this (by decide)⟩) (sb_ab r1 (by decide))
  have e1 : clX p F j a = rsh (sg (fun b => atV p a b * F (j * 24 + b)) 24) 30 := dv.1
  rw [e1]
  refine ⟨?_, dv.2, r1⟩
  have e2 : 1152921504606846976 * sg (fun b => atV p a b * F (j * 24 + b)) 24 = sg (fun b => (1152921504606846976 * atV p a b - PP p a b) * F (j * 24 + b)) 24 + clQ p F j a := by
    unfold clQ
    rw [← sg_mul, ← sg_add]
    exact sg_congr fun b _ => by grind
  have s2 := sg_bd2 (by decide) (fun b hb => (C.at_p ha hb).1) hf
  have r2 := rsh_two (sg (fun b => atV p a b * F (j * 24 + b)) 24)
  obtain ⟨X, hX⟩ : ∃ X, sg (fun b => atV p a b * F (j * 24 + b)) 24 = X := ⟨_, rfl⟩
  rw [hX] at e2 r2 ⊢
  have c := ab_bd (sg (fun b => (1152921504606846976 * atV p a b - PP p a b) * F (j * 24 + b)) 24)
  have d := ab_bd (1073741824 * rsh X 30 - X)
  exact le_ab (by omega)
theorem ClH.sum_err {i j : Nat} (hi : i < 24) (hj : j < 24) : ab (1329227995784915872903807060280344576 * dotV 30 (rowF 24 F i) (clX p F j) 24 - sg (fun a => F (i * 24 + a) * clQ p F j a) 24) ≤ 40000000000000000000000000000000000000 ∧ dotH 30 (rowF 24 F i) (clX p F j) 24 = false ∧ ab (dotV 30 (rowF 24 F i) (clX p F j) 24) ≤ 500000000000000 := by
  have hf := C.f_sum hi
  have s1 := sg_bd2 (by decide) (fun a ha => (C.x_err hj ha).2.2) hf
  have r1 := rsh_ab (m := 500000000000000) (Int.le_trans s1 (by decide))
  have e0 : sg (fun a => F (i * 24 + a) * clX p F j a) 24 = sg (fun a => clX p F j a * F (i * 24 + a)) 24 := sg_congr fun a _ => Int.mul_comm _ _
  rw [← e0] at r1
  have dv := dotV_sg (A := rowF 24 F i) (B := clX p F j) (n := 24) (fun a ha => ⟨by
    have := C.fsb hi ha
    unfold rowF
    split at this <;> exact sb_ab this (by decide), sb_ab (C.x_err hj ha).2.2 (by decide)⟩) (sb_ab r1 (by decide))
  have e1 : dotV 30 (rowF 24 F i) (clX p F j) 24 = rsh (sg (fun a => F (i * 24 + a) * clX p F j a) 24) 30 := dv.1
  rw [e1]
  refine ⟨?_, dv.2, r1⟩
  have e2 : 1237940039285380274899124224 * sg (fun a => F (i * 24 + a) * clX p F j a) 24 = sg (fun a => (1237940039285380274899124224 * clX p F j a - clQ p F j a) * F (i * 24 + a)) 24 + sg (fun a => F (i * 24 + a) * clQ p F j a) 24 := by
    rw [← sg_mul, ← sg_add]
    exact sg_congr fun a _ => by grind
  have s2 := sg_bd2 (by decide) (fun a ha => (C.x_err hj ha).1) hf
  have r2 := rsh_two (sg (fun a => F (i * 24 + a) * clX p F j a) 24)
  obtain ⟨X, hX⟩ : ∃ X, sg (fun a => F (i * 24 + a) * clX p F j a) 24 = X := ⟨_, rfl⟩
  rw [hX] at e2 r2 ⊢
  have c := ab_bd (sg (fun a => (1237940039285380274899124224 * clX p F j a - clQ p F j a) * F (i * 24 + a)) 24)
  have d := ab_bd (1073741824 * rsh X 30 - X)
  exact le_ab (by omega)
/-- The law's difference. -/
theorem ClH.close {i j : Nat} (hi : i < 24) (hj : j < 24) : atH (stepF p F q) i j = false ∧ ab (atV (stepF p F q) i j) ≤ 60000000000000 ∧
    ab (atV (stepF p F q) i j - (dotV 30 (rowF 24 F i) (clX p F j) 24 + (if i = j then q i else 0))) ≤ 4294967296 := by
  have R := C.run
  have O : RunO (stepW p F) (stepE p q) (stepF p F q) := run_o _ _
  have nrm : ∀ l, l < 24 → Nrm (WN (stepW p F) (stepE p q) (23 - l)) (stepE p q) l := fun l hl => ⟨24 + l, by omega, ((R.all (23 - l) (by omega)).1 l hl).1, C.wt_big (by omega)⟩
  have a : ab (1152921504606846976 * atV (stepF p F q) i j - gr (rowF 48 (stepW p F) i) (rowF 48 (stepW p F) j) (stepE p q)) ≤ 25 * 116056878683004400771792896 ∧ atH (stepF p F q) i j = false := by
    by_cases h : i ≤ j
    · have r := run_at R O h hj (nrm j hj)
      exact ⟨r.1, r.2.1⟩
    · have r := run_at R O (show j ≤ i by omega) hi (nrm i hi)
      rw [gr_comm]
      exact ⟨r.2.2.1, r.2.2.2⟩
  have g := C.gr_eq hi hj
  have s := C.sum_err hi hj
  have g1 := C.g_own hi
  have g2 := C.g_own hj
  have g3 := gr_two (rowF 48 (stepW p F) i) (rowF 48 (stepW p F) j) (stepE p q) (fun k hk => (C.wt k hk).1) 1
  have q3 := ab_bd (2 * 1 * gr (rowF 48 (stepW p F) i) (rowF 48 (stepW p F) j) (stepE p q))
  have eq : sg (fun a => F (i * 24 + a) * sg (fun b => F (j * 24 + b) * PP p a b) 24) 24 = sg (fun a => F (i * 24 + a) * clQ p F j a) 24 := rfl
  rw [eq] at g
  refine ⟨a.2, ?_, ?_⟩
  · have c := ab_bd (1152921504606846976 * atV (stepF p F q) i j - gr (rowF 48 (stepW p F) i) (rowF 48 (stepW p F) j) (stepE p q))
    exact le_ab (by omega)
  · obtain ⟨A, hA⟩ : ∃ A, atV (stepF p F q) i j = A := ⟨_, rfl⟩
    obtain ⟨G, hG⟩ : ∃ A, gr (rowF 48 (stepW p F) i) (rowF 48 (stepW p F) j) (stepE p q) = A := ⟨_, rfl⟩
    obtain ⟨S, hS⟩ : ∃ A, dotV 30 (rowF 24 F i) (clX p F j) 24 = A := ⟨_, rfl⟩
    obtain ⟨T, hT⟩ : ∃ A, sg (fun a => F (i * 24 + a) * clQ p F j a) 24 = A := ⟨_, rfl⟩
    rw [hA, hG] at a
    rw [hG, hT] at g
    rw [hS, hT] at s
    rw [hA, hS]
    have c1 := ab_bd (1152921504606846976 * A - G)
    have c3 := ab_bd (1329227995784915872903807060280344576 * S - T)
    by_cases h : i = j
    · rw [if_pos h] at g ⊢
      have c2 := ab_bd (1152921504606846976 * (G - 1152921504606846976 * q i) - T)
      exact le_ab (by omega)
    · rw [if_neg h] at g ⊢
      have c2 := ab_bd (1152921504606846976 * (G - 0) - T)
      exact le_ab (by omega)
end
end Go.Proofs.Ytcombidoaghlbaa
/- The Close laws' numbers are within what the plain laws ask. No program beyond the numbers' names. -/
namespace Go.Proofs.Ytcombidoaghlbaa
theorem clD_hyp (p : Nat → Int) : (∀ x, x < 276 → ab (clD p 24 x) ≤ 268435455) ∧ ∀ i, i < 24 → 17179869184 ≤ clD p 24 (276 + i) ∧ clD p 24 (276 + i) ≤ 8813272891391 := by
  refine ⟨fun x hx => ?_, fun i hi => ?_⟩
  · unfold clD; rw [if_pos hx]; exact tmod_ab _ (by decide)
  · unfold clD
    rw [if_neg (by omega), if_pos (by omega)]
    have := and43 (p (276 + i))
    omega
theorem cl_hyp (p F q : Nat → Int) : ClH (clD p 24) (clFr F 24 0) (clQk q 24) where
  u := (clD_hyp p).1
  d := (clD_hyp p).2
  f := fun i m hi hm => by
    have e1 : (i * 24 + m) / 24 = i := by omega
    have e2 : (i * 24 + m) % 24 = m := by omega
    have t := tmod_ab (F (i * 24 + m)) (m := 16777216) (by decide)
    unfold clFr
    rw [e1, e2, if_pos hi]
    by_cases h : i = m
    · rw [if_pos h.symm, if_pos h, Int.add_sub_cancel]; omega
    · rw [if_neg (Ne.symm h), if_neg h, Int.add_zero, Int.sub_zero]; omega
  q := fun i hi => by
    unfold clQk
    rw [if_pos hi]
    have := and39 (q i)
    omega
end Go.Proofs.Ytcombidoaghlbaa
/- Runs whose left half is unit triangular (F is One, but for a state that is forgotten): the sizes of the rows' numbers. No program beyond the numbers' names. -/
namespace Go.Proofs.Ytcombidoaghlbaa
/-- The rows at the start: kx is the state that is forgotten (24: none). -/
structure TriH (W e : Nat → Int) (kx : Nat) : Prop where
  wt : WtB e
  low : ∀ i m, m < i → i < 24 → W (i * 48 + m) = 0
  one : ∀ i, i < 24 → i ≠ kx → W (i * 48 + i) = 1073741824
  up : ∀ i m, i < m → m < 24 → i ≠ kx → ab (W (i * 48 + m)) ≤ 268435456
  zk : kx < 24 → ∀ m, m < 24 → W (kx * 48 + m) = 0
  right : ∀ i m, i < 24 → m < 24 → W (i * 48 + (24 + m)) = if m = i then 1073741824 else 0
  big : ∀ k, k < 24 → 17179869184 ≤ e k
  ek : kx < 24 → 1 ≤ e (24 + kx)
  g : ∀ i, i < 24 → gr (rowF 48 W i) (rowF 48 W i) e ≤ 50700000000000000000000000000000
def OO : Nat → Int | 0 => 1 | n + 1 => 1073741824 * OO n
/-- The rows as combinations (t, times 2^30 with each stage) of rows that hardly change. -/
structure TrP (W e : Nat → Int) (kx n : Nat) (t A V : Nat → Nat → Int) : Prop where
  z1 : ∀ i m, m < i → i < 24 → WN W e n (i * 48 + m) = 0
  z2 : ∀ i, i < 24 → i ≠ kx → WN W e n (i * 48 + i) = 1073741824
  z3 : RgtP W e n
  k1 : kx < 24 → kx < 24 - n → ∀ k, k < 48 → k ≠ 24 + kx → WN W e n (kx * 48 + k) = 0
  k2 : kx < 24 → ∀ i, i < 24 → i ≠ kx → WN W e n (i * 48 + (24 + kx)) = 0
  t1 : ∀ i, i < 24 - n → t i i = OO n
  t2 : ∀ i p, i < 24 - n → p ≠ i → p < 24 - n → t i p = 0
  t4 : ∀ i p, i < 24 - n → i ≠ kx → p = kx → t i p = 0
  a1 : ∀ p, p < 24 → p ≠ kx → A p p = 1152921504606846976
  a2 : ∀ p m, m < p → p < 24 → A p m = 0
  a3 : ∀ p m, p < m → m < 24 → p ≠ kx → ab (A p m) ≤ 288230376151711744 + n * 536870912
  a4 : kx < 24 → ∀ m, m < 24 → A kx m = 0
  v1 : ∀ p, p < 24 → V p p = 1152921504606846976
  v2 : ∀ p m, m < 24 → p < 24 → p ≠ m → ab (V p m) ≤ n * 536870912
  r1 : ∀ i m, i < 24 - n → m < 24 → OO (n + 1) * WN W e n (i * 48 + m) = sg (fun p => t i p * A p m) 24
  r2 : ∀ i m, i < 24 - n → m < 24 → OO (n + 1) * WN W e n (i * 48 + (24 + m)) = sg (fun p => t i p * V p m) 24
end Go.Proofs.Ytcombidoaghlbaa
/- Arguments that are arrays of int64 (or structs of such): opened as numbers; a slice of int64 too. Of no one program. -/
namespace Go.Proofs.Ytcombidoaghlbaa
open Go.RowKit Go.ChangeShapes
def AllInt (cs : List Value) : Prop := ∀ v, v ∈ cs → ∃ z, v = .int .i64 z ∧ (Lit.int .i64 z).wf = true
section
variable {H : Type} {enc : TypeId × Value → H} {P : Program} {w : World} {base : Nat} {spare : Nat → Bool} {held : Bool}
/-- What reads as t is int64 numbers alone. -/
def Ints (enc : TypeId × Value → H) (P : Program) (w : World) (base : Nat) (spare : Nat → Bool) (held : Bool) (t : TypeId) : Prop :=
  ∀ fuel cs x, DataW.trod enc P w base spare held fuel t cs = some x → AllInt cs ∧ x.2 = []
theorem ints_int {t : TypeId} (hu : P.underlying t = some (.int .i64)) : Ints enc P w base spare held t := by
  intro fuel cs x h
  obtain ⟨n, h1, h2, h3⟩ := DataW.trod_int hu h
  subst h1
  refine ⟨fun v hv => ?_, ?_⟩
  · rw [List.mem_singleton] at hv; exact ⟨n, hv, h3⟩
  · rw [h2]
theorem ints_array {t e : TypeId} {n m : Nat} (hu : P.underlying t = some (.array n e)) (hc : P.cellsOf t = n * m) (hm : P.cellsOf e = m) (he : Ints enc P w base spare held e) : Ints enc P w base spare held t := by
  intro fuel cs x h
  obtain ⟨xs, k, rfl, rfl, hl, hx, hi⟩ := DataW.trod_array hu h
  rw [hc] at hl
  rw [hm] at hi
  refine ⟨fun v hv => ?_, ?_⟩
  · obtain ⟨q, hq, rfl⟩ := List.getElem_of_mem hv
    have hm0 : 0 < m := by
      rcases Nat.eq_zero_or_pos m with h0 | h0
      · subst h0; omega
      · exact h0
    have hqm : q / m < n := by rw [Nat.div_lt_iff_lt_mul hm0]; omega
    have hh := hi (q / m) hqm
    rw [List.getElem?_eq_getElem (by omega)] at hh
    refine (he _ _ _ hh).1 _ ?_
    rw [List.mem_iff_getElem?]
    refine ⟨q % m, ?_⟩
    rw [List.getElem?_take_of_lt (Nat.mod_lt _ hm0), List.getElem?_drop, Nat.mul_comm, Nat.div_add_mod]
    exact List.getElem?_eq_getElem hq
  · show xs.flatMap (·.2) = []
    rw [List.flatMap_eq_nil_iff]
    intro y hy
    obtain ⟨q, hq, rfl⟩ := List.getElem_of_mem hy
    have hh := hi q (by omega)
    rw [List.getElem?_eq_getElem hq] at hh
    exact (he _ _ _ hh).2
/-- A struct of two: U's numbers, then D's. -/
theorem ints_struct2 {t : TypeId} {f0 f1 : Field} {a b : Nat} (hu : P.underlying t = some (.struct #[f0, f1])) (hc : P.cellsOf t = a + b) (o0 : f0.offset = 0) (o1 : f1.offset = a) (c0 : P.cellsOf f0.type = a) (c1 : P.cellsOf f1.type = b)
    (h0 : Ints enc P w base spare held f0.type) (h1 : Ints enc P w base spare held f1.type) : Ints enc P w base spare held t := by
  intro fuel cs x h
  obtain ⟨xs, k, rfl, rfl, hl, hx, hi⟩ := DataW.trod_struct hu h
  rw [hc] at hl
  have hx2 : xs.length = 2 := hx
  have g0 := hi 0 f0 rfl
  have g1 := hi 1 f1 rfl
  rw [List.getElem?_eq_getElem (by omega)] at g0 g1
  have r0 := h0 _ _ _ g0
  have r1 := h1 _ _ _ g1
  refine ⟨fun v hv => ?_, ?_⟩
  · obtain ⟨q, hq, rfl⟩ := List.getElem_of_mem hv
    by_cases hqa : q < a
    · refine r0.1 _ ?_
      rw [List.mem_iff_getElem?]
      refine ⟨q, ?_⟩
      rw [c0, o0, List.drop_zero, List.getElem?_take_of_lt hqa]
      exact List.getElem?_eq_getElem hq
    · refine r1.1 _ ?_
      rw [List.mem_iff_getElem?]
      refine ⟨q - a, ?_⟩
      rw [c1, o1, List.getElem?_take_of_lt (by omega), List.getElem?_drop, show a + (q - a) = q by omega]
      exact List.getElem?_eq_getElem hq
  · show xs.flatMap (·.2) = []
    rw [List.flatMap_eq_nil_iff]
    intro y hy
    obtain ⟨q, hq, rfl⟩ := List.getElem_of_mem hy
    obtain rfl | rfl : q = 0 ∨ q = 1 := by omega
    · exact r0.2
    · exact r1.2
/-- A value of such a type: an aggregate of numbers. -/
theorem open_vec {r : Reach} {b0 n : Nat} {t : TypeId} {v : Value} {d : DataW H} {ps : List MemPlace} (hI : Ints enc P w base spare held t) (hc : P.cellsOf t = n)
    (hu : ∃ u, P.underlying t = some u ∧ (match u with | .struct _ | .array _ _ => true | _ => false) = true) (hval : Value.okWide P w r b0 t v) (hd : DataW.Trod enc P w base spare held t v d ps) :
    ∃ f : Nat → Int, v = .agg (arrv n f) ∧ (∀ i, -9223372036854775808 ≤ f i ∧ f i ≤ 9223372036854775807) ∧ ps = [] := by
  obtain ⟨u, hu1, hu2⟩ := hu
  have hv : ∃ cs, v = .agg cs ∧ cs.size = P.cellsOf t := by
    unfold Value.okWide at hval
    rw [hu1] at hval
    cases u <;> simp at hu2 hval <;> (obtain ⟨cs, h1, h2, _⟩ := hval; exact ⟨cs, h1, h2⟩)
  obtain ⟨cs, rfl, hs⟩ := hv
  rw [hc] at hs
  obtain ⟨fuel, hf⟩ := hd
  obtain ⟨hA, hp⟩ := hI _ _ _ hf
  have hA' : ∀ i, i < n → ∃ z, cs[i]? = some (.int .i64 z) ∧ (Lit.int .i64 z).wf = true := by
    intro i hi
    have hm : cs[i]'(by omega) ∈ (Value.agg cs).cells.toList := by simp [Value.cells]
    obtain ⟨z, hz, hw⟩ := hA _ hm
    exact ⟨z, by rw [Array.getElem?_eq_getElem (by omega), hz], hw⟩
  refine ⟨fun i => if h : i < n then Classical.choose (hA' i h) else 0, ?_, fun i => ?_, hp⟩
  · congr 1
    apply Array.ext_getElem?
    intro i
    by_cases hi : i < n
    · rw [arrv_get hi]
      simp only [dif_pos hi]
      exact (Classical.choose_spec (hA' i hi)).1
    · rw [Array.getElem?_eq_none (by omega), Array.getElem?_eq_none (by rw [arrv_size]; omega)]
  · by_cases hi : i < n
    · simp only [dif_pos hi]
      exact Go.bounds_i64 (Classical.choose_spec (hA' i hi)).2
    · simp only [dif_neg hi]; omega
end
end Go.Proofs.Ytcombidoaghlbaa
/- The join of a law: arguments that read before the call read behind it, if nothing that was there has turned. -/
namespace Go.Proofs.Ytcombidoaghlbaa
open Go.ChangeShapes Go.WideShapes Go.ChangeAt Go.RowKit
theorem trodAll_stays {H : Type} {enc : TypeId × Value → H} {P : Program} (hl : laidOutB P = true) {W W' : World} (hb : Below W.heap.size W W') {sp : Nat → Bool} : ∀ {ts : List TypeId} {vs : List Value} {ds : List (DataW H)} {p : List MemPlace},
    (ts.all fun t => P.readableRec t && decide (t < P.types.size)) = true → DataW.TrodAll enc P W 0 (fun _ => true) true ts vs ds p → (∀ x ∈ p, x.block < W.heap.size) → (∀ x ∈ p, sp x.block = true) → DataW.TrodAll enc P W' 0 sp true ts vs ds p
  | [], [], [], _, _, h, _, _ => h
  | t :: ts, v :: vs, d :: ds, p, ht, h, hlt, hsp => by
    obtain ⟨q, r, h1, h2, rfl⟩ := h
    rw [List.all_cons, Bool.and_eq_true, Bool.and_eq_true, decide_eq_true_eq] at ht
    exact ⟨q, r, WideElems.Trod_stays hl ht.1.1 ht.1.2 h1 (fun x hx => hb.same (hlt x (List.mem_append_left _ hx))) (fun x hx => hsp x (List.mem_append_left _ hx)),
      trodAll_stays hl hb ht.2 h2 (fun x hx => hlt x (List.mem_append_right _ hx)) (fun x hx => hsp x (List.mem_append_right _ hx)), rfl⟩
  | [], _ :: _, _, _, _, h, _, _ => by cases ‹List (DataW H)› <;> exact h.elim
  | [], [], _ :: _, _, _, h, _, _ => h.elim
  | _ :: _, [], _, _, _, h, _, _ => by cases ‹List (DataW H)› <;> exact h.elim
  | _ :: _, _ :: _, [], _, _, h, _, _ => h.elim
/-- What a law owes behind the call: it answers true, and nothing that was there has turned. -/
theorem law_post {H : Type} {enc : TypeId × Value → H} {P : Program} {f : Func} {s : ChangeSpec} {apart fresh handsOn again : Bool} {W W' : World} {args : Array Value} {ds gs : List (DataW H)} {before : List MemPlace} {tb : TypeId}
    (hW : DataW.Whole enc P f.params.toList s.vars apart W args.toList ds gs before) (hv : s.vars = []) (hfn : s.fn H ds = { results := [.lit (.bool true)], args := ds })
    (hu : P.underlying tb = some .bool) (hr : f.resultTypes = #[tb]) (hl : laidOutB P = true) (hts : (f.params.toList.all fun t => P.readableRec t && decide (t < P.types.size)) = true) (hb : Below W.heap.size W W') :
    s.post enc P f apart fresh handsOn again W args (.bool true) W' := by
  have hlt : ∀ x ∈ before, x.block < W.heap.size := fun x hx => hW.lt x hx
  have hW0 := hW
  obtain ⟨p, q, hA, hV, rfl, hfz, hnd⟩ := hW
  rw [hv] at hV
  obtain ⟨rfl, rfl⟩ := trodVars_none hV
  rw [List.append_nil] at hlt
  have hargs : ∀ sp : Nat → Bool, (∀ x ∈ p, sp x.block = true) → DataW.TrodAll enc P W' 0 sp true f.params.toList args.toList ds p := fun sp hsp => trodAll_stays hl hb hts hA hlt hsp
  have hvars : ∀ sp : Nat → Bool, DataW.TrodVars enc P W' sp s.vars ([] : List (DataW H)) [] := fun sp => by rw [hv]; exact rfl
  have hres : ∀ (b : Nat) (sp : Nat → Bool) (hd : Bool), DataW.TrodAll enc P W' b sp hd f.resultTypes.toList ((Value.bool true).resultList f.resultTypes.size) [.lit (.bool true)] [] := fun b sp hd => by
    rw [hr]; exact trodAll_mk1 (shut_bool hu _)
  have hold : ∀ x ∈ p, (fun b => decide (b < W.heap.size)) x.block = true := fun x hx => by simpa using hlt x hx
  have hfn' : s.fn H (ds ++ []) = { results := [.lit (.bool true)], args := ds } := by rw [List.append_nil]; exact hfn
  refine ⟨ds, [], p ++ [], [], p, [], hW0, ?_, ?_, ?_, World.keptBut_mono (fun x hx => ⟨hx, ?_⟩) (hb.frame (· ∈ p ++ [])), fun _ => ?_⟩
  · rw [hfn']; exact hres _ _ _
  · rw [hfn']; exact hargs _ hold
  · rw [hfn']; exact hvars _
  · rw [List.append_nil] at hx; exact Or.inr (.inl hx)
  · refine ⟨ok_one hr rfl (okWide_bool_mk hu _), _, _, ([] ++ p) ++ [], ⟨[] ++ p, [], trodAll_append (hargs _ (fun _ _ => rfl)) (hres _ _ _), hvars _, rfl, ?_, ?_⟩, ?_⟩
    · intro b off hx
      have hin : MemPlace.cell b off ∈ p := by simpa using hx
      rw [hb.frozen (p := ⟨b, off, none⟩) (hlt _ hin)]
      exact hfz b off (by simpa using hin)
    · intro ha
      simpa using hnd ha
    · intro x hx _
      simpa using hx
section
variable {H : Type} {enc : TypeId × Value → H} {w : World} {base : Nat} {spare : Nat → Bool} {held : Bool}
theorem cells_of_size {P : Program} {t : TypeId} {n : Nat} (h : (P.info? t).map (·.size) = some n) : P.cellsOf t = n := by
  unfold Program.cellsOf
  cases e : P.info? t with
  | none => rw [e] at h; cases h
  | some i => rw [e] at h; simpa using h
theorem cells_i64 : Try.prog.cellsOf 2 = 1 := cells_of_size (by kernel_rfl)
theorem cells_col : Try.prog.cellsOf 23 = 24 := cells_of_size (by kernel_rfl)
theorem cells_u : Try.prog.cellsOf 22 = 276 := cells_of_size (by kernel_rfl)
theorem cells_cov : Try.prog.cellsOf 25 = 300 := cells_of_size (by kernel_rfl)
theorem cells_mat : Try.prog.cellsOf 27 = 576 := cells_of_size (by kernel_rfl)
theorem ints_i64 : Ints enc Try.prog w base spare held 2 := ints_int Try.underlying2
theorem ints_col : Ints enc Try.prog w base spare held 23 := ints_array (n := 24) (m := 1) Try.underlying23 cells_col cells_i64 ints_i64
theorem ints_u : Ints enc Try.prog w base spare held 22 := ints_array (n := 276) (m := 1) Try.underlying22 cells_u cells_i64 ints_i64
theorem ints_cov : Ints enc Try.prog w base spare held 25 := ints_struct2 (a := 276) (b := 24) Try.underlying25 cells_cov rfl rfl cells_u cells_col ints_u ints_col
theorem ints_mat : Ints enc Try.prog w base spare held 27 := ints_array (n := 24) (m := 24) Try.underlying27 cells_mat cells_col ints_col
theorem own_knob : ownKnob Try.prog.godebug = none := by kernel_rfl
theorem laid_out : laidOutB Try.prog = true := by kernel_rfl
end
end Go.Proofs.Ytcombidoaghlbaa
