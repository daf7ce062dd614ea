/- Contracts of the program's functions and plain laws, part 8: they hold for all arguments. -/
import Derived.Test.YtipkdkeacdmnaaaQ07
/- The covariance that is carried on is F P F' + Q, within a little (plain law of ThorntonClose). No program beyond the numbers' names. -/
namespace Go.Proofs.Ytipkdkeacdmnaaa
theorem sg_swap (g : Nat → Nat → Int) (n : Nat) : ∀ m, sg (fun a => sg (fun k => g a k) n) m = sg (fun k => sg (fun a => g a k) m) n
  | 0 => by
    show (0 : Int) = sg (fun k => (0 : Int)) n
    rw [sg_const]; simp
  | m + 1 => by
    show sg (fun a => sg (fun k => g a k) n) m + sg (fun k => g m k) n = sg (fun k => sg (fun a => g a k) m + g m k) n
    rw [sg_swap g n m, sg_add]
theorem sg_app (f : Nat → Int) (a : Nat) : ∀ b, sg f (a + b) = sg f a + sg (fun k => f (a + k)) b
  | 0 => by simp [sg]
  | b + 1 => by
    show sg f (a + b) + f (a + b) = sg f a + (sg (fun k => f (a + k)) b + f (a + b))
    rw [sg_app f a b]; omega
theorem sg_mulr (c : Int) (f : Nat → Int) (n : Nat) : sg (fun k => f k * c) n = sg f n * c := by
  rw [show (fun k => f k * c) = (fun k => c * f k) from funext fun k => Int.mul_comm _ _, sg_mul, Int.mul_comm]
theorem ab_mul_le {x y X Y : Int} (hx : ab x ≤ X) (hy : ab y ≤ Y) : ab (x * y) ≤ X * Y := by
  rw [ab_mul]
  have := (ab_bd x).1
  have := (ab_bd y).1
  exact Int.mul_le_mul hx hy (by omega) (by omega)
/-- A row's number, by its square and the weight. -/
theorem ent_of_gr {a e : Nat → Int} (he : WtB e) (hg : gr a a e ≤ 50706024009129176059868128215040) {k : Nat} (hk : k < 48) (hw : 17179869184 ≤ e k) : ab (a k) ≤ 54760833024 := by
  have h1 : a k * a k * e k ≤ gr a a e := sg_one (f := fun k => a k * a k * e k) hk fun k hk => Int.mul_nonneg (sq_nn _) (he k hk).1
  refine Decidable.byContradiction fun hc => ?_
  have h2 : ab (a k) * ab (a k) = a k * a k := by
    rcases (show ab (a k) = a k ∨ ab (a k) = -(a k) by unfold ab; omega) with h | h <;> rw [h]
    exact Int.neg_mul_neg _ _
  have h3 : (54760833024 : Int) * 54760833024 ≤ ab (a k) * ab (a k) := Int.mul_le_mul (by omega) (by omega) (by decide) (ab_bd _).1
  rw [h2] at h3
  have h4 : (54760833024 : Int) * 54760833024 * 17179869184 ≤ a k * a k * e k := Int.mul_le_mul h3 hw (by decide) (sq_nn _)
  omega
/-- The factors, the matrix, the noise. -/
structure ClH (p F q : Nat → Int) : Prop where
  u : ∀ x, x < 276 → ab (p x) ≤ 268435455
  d : ∀ i, i < 24 → 17179869184 ≤ p (276 + i) ∧ p (276 + i) ≤ 8813272891391
  f : ∀ i m, i < 24 → m < 24 → ab (F (i * 24 + m) - (if i = m then 1073741824 else 0)) ≤ 16777215
  q : ∀ i, i < 24 → 17179869184 ≤ q i ∧ q i ≤ 566935683071
section
variable {p F q : Nat → Int} (C : ClH p F q)
include C
theorem ClH.uv {a k : Nat} (hk : k < 24) : ab (uV p a k) ≤ if a = k then 1073741824 else 268435455 := by
  by_cases h : a = k
  · subst h; rw [uV_self, if_pos rfl]; decide
  · rw [if_neg h]
    by_cases h2 : a < k
    · rw [uV_up h2]; exact C.u _ (pl_lt h2 hk)
    · rw [uV_low (by omega)]; decide
theorem ClH.uv1 {a k : Nat} (hk : k < 24) : ab (uV p a k) ≤ 1073741824 := by
  have := C.uv (a := a) hk
  split at this <;> omega
theorem ClH.cond : (∀ x, x < 300 → condF p x = p x) ∧ condH p = false := by
  constructor
  · intro x hx
    unfold condF
    split
    · next h => exact satV_sb (sb_ab (C.u x h) (by decide))
    · next h =>
      have := C.d (x - 276) (by omega)
      rw [show 276 + (x - 276) = x by omega] at this
      exact (cl_varV (by omega) (by omega)).1
  · unfold condH
    rw [cl_orB, cl_orB]; rfl
    · intro i hi; exact satH_sb (sb_ab (C.u i hi) (by decide))
    · intro i hi; have := C.d i hi; exact (cl_varV (by omega) (by omega)).2
theorem ClH.fsb {i m : Nat} (hi : i < 24) (hm : m < 24) : ab (F (i * 24 + m)) ≤ (if i = m then 1073741824 else 0) + 16777215 := by
  have := C.f i m hi hm
  by_cases h : i = m
  · rw [if_pos h] at this ⊢
    have a := ab_bd (F (i * 24 + m) - 1073741824)
    exact le_ab (by omega)
  · rw [if_neg h] at this ⊢
    have a := ab_bd (F (i * 24 + m) - 0)
    exact le_ab (by omega)
theorem ClH.fs {x : Nat} (hx : x < 576) : satV (F x) = F x ∧ satH (F x) = false := by
  have := C.fsb (i := x / 24) (m := x % 24) (by omega) (by omega)
  rw [show x / 24 * 24 + x % 24 = x by omega] at this
  have s : SB (F x) := by split at this <;> exact sb_ab this (by decide)
  exact ⟨satV_sb s, satH_sb s⟩
/-- The exact product of the matrix and U. -/
def clC (p F : Nat → Int) (i k : Nat) : Int := sg (fun m => F (i * 24 + m) * uV p m k) 24
theorem ClH.c_near {i k : Nat} (hi : i < 24) (hk : k < 24) : ab (clC p F i k - 1073741824 * uV p i k) ≤ 16777215 * 7247757289 := by
  have e1 : clC p F i k - 1073741824 * uV p i k = sg (fun m => (F (i * 24 + m) - (if i = m then 1073741824 else 0)) * uV p m k) 24 := by
    have : sg (fun m => (if i = m then 1073741824 else 0) * uV p m k) 24 = 1073741824 * uV p i k := by
      rw [sg_only hi fun m _ hm => by rw [if_neg (by omega), Int.zero_mul], if_pos rfl]
    have h2 : clC p F i k = sg (fun m => (F (i * 24 + m) - (if i = m then 1073741824 else 0)) * uV p m k) 24 + sg (fun m => (if i = m then 1073741824 else 0) * uV p m k) 24 := by
      unfold clC
      rw [← sg_add]
      exact sg_congr fun m _ => by grind
    omega
  rw [e1]
  refine Int.le_trans (sg_bd fun m hm => C.f i m hi hm) (Int.mul_le_mul_of_nonneg_left ?_ (by decide))
  have h := sg_le (f := fun m => ab (uV p m k)) (g := fun m => 268435455 + (if m = k then 805306369 else 0)) (n := 24) fun m _ => by
    have := C.uv (a := m) hk
    split at this <;> split <;> omega
  rw [sg_add, sg_const, sg_only hk fun m _ hm => if_neg hm, if_pos rfl] at h
  omega
theorem ClH.c_bd {i k : Nat} (hi : i < 24) (hk : k < 24) : ab (clC p F i k) ≤ 1073741824 * (if i = k then 1186988034 else 381681666) := by
  have a := C.c_near hi hk
  have b := C.uv (a := i) hk
  have c := ab_bd (clC p F i k - 1073741824 * uV p i k)
  have d := ab_bd (uV p i k)
  split at b <;> exact le_ab (by omega)
theorem ClH.w_left {i k : Nat} (hi : i < 24) (hk : k < 24) : stepW p F (i * 48 + k) = rsh (clC p F i k) 30 ∧ rwB (condF p) (fS F 24 0) i k = false := by
  have e1 : (i * 48 + k) / 48 = i := by omega
  have e2 : (i * 48 + k) % 48 = k := by omega
  have eF : ∀ m, m < 24 → rowF 24 (fS F 24 0) i m = F (i * 24 + m) := fun m hm => by
    have : (i * 24 + m) / 24 = i := by omega
    unfold rowF fS
    rw [this, if_pos (.inl hi)]; exact (C.fs (by omega)).1
  have eU : ∀ m, m < 24 → colF (condF p) k m = uV p m k := fun m hm => by
    unfold colF
    split
    · next h =>
      by_cases h2 : m = k
      · subst h2; rw [uV_self, uV_self]
      · rw [uV_up (by omega), uV_up (by omega), C.cond.1 _ (by have := pl_lt (i := m) (j := k) (by omega) hk; omega)]
    · rw [uV_low (by omega)]
  have hs : sg (fun m => rowF 24 (fS F 24 0) i m * colF (condF p) k m) 24 = clC p F i k := sg_congr fun m hm => by rw [eF m hm, eU m hm]
  have c := C.c_bd hi hk
  have r : ab (rsh (clC p F i k) 30) ≤ 1186988034 := rsh_ab (Int.le_trans c (by split <;> decide))
  have dv := dotV_sg (A := rowF 24 (fS F 24 0) i) (B := colF (condF p) k) (n := 24) (fun m hm => by
    rw [eF m hm, eU m hm]
    have a := C.fsb hi hm
    have b := C.uv1 (a := m) hk
    refine ⟨?_, sb_ab b (by decide)⟩
    split at a <;> exact sb_ab a (by decide)) (by rw [hs]; exact sb_ab r (by decide))
  rw [hs] at dv
  unfold stepW rowsW rwB
  rw [e1, e2, if_pos hk]
  exact dv
omit C in
theorem cl_right {i m : Nat} (hi : i < 24) (hm : m < 24) : stepW p F (i * 48 + (24 + m)) = if m = i then 1073741824 else 0 := by
  have e1 : (i * 48 + (24 + m)) / 48 = i := by omega
  have e2 : (i * 48 + (24 + m)) % 48 = 24 + m := by omega
  unfold stepW rowsW
  rw [e1, e2, if_neg (by omega)]
  by_cases h : m = i
  · rw [if_pos (by omega), if_pos h]
  · rw [if_neg (by omega), if_neg h]
theorem ClH.e_left {k : Nat} (hk : k < 24) : stepE p q k = p (276 + k) := by
  unfold stepE eS
  rw [if_pos hk, C.cond.1 _ (by omega)]
theorem ClH.e_right {k : Nat} (hk : k < 24) : stepE p q (24 + k) = q k := by
  have := C.q k hk
  unfold stepE eS
  rw [if_neg (by omega), if_pos (by omega), show 24 + k - 24 = k by omega]
  exact (qV_id (by omega) (by omega)).1
theorem ClH.wt : WtB (stepE p q) := fun k hk => by
  by_cases h : k < 24
  · rw [C.e_left h]; have := C.d k h; omega
  · obtain ⟨m, rfl⟩ : ∃ m, k = 24 + m := ⟨k - 24, by omega⟩
    rw [C.e_right (by omega)]; have := C.q m (by omega); omega
theorem ClH.wt_big {k : Nat} (hk : k < 48) : 17179869184 ≤ stepE p q k := by
  by_cases h : k < 24
  · rw [C.e_left h]; exact (C.d k h).1
  · obtain ⟨m, rfl⟩ : ∃ m, k = 24 + m := ⟨k - 24, by omega⟩
    rw [C.e_right (by omega)]; exact (C.q m (by omega)).1
theorem ClH.g_own {i : Nat} (hi : i < 24) : gr (rowF 48 (stepW p F) i) (rowF 48 (stepW p F) i) (stepE p q) ≤ 50700000000000000000000000000000 := by
  have key : ∀ k, k < 48 → rowF 48 (stepW p F) i k * rowF 48 (stepW p F) i k * stepE p q k ≤ (if k = i then 12420000000000000000000000000000 else 0) + ((if k = 24 + i then 660000000000000000000000000000 else 0) + (if k < 24 then 1290000000000000000000000000000 else 0)) := by
    intro k hk
    unfold rowF
    have sq : ∀ x : Int, x * x = ab x * ab x := fun x => by
      rcases (show ab x = x ∨ ab x = -x by unfold ab; omega) with h | h <;> rw [h]
      exact (Int.neg_mul_neg _ _).symm
    have e0 := (C.wt k hk).1
    by_cases h : k < 24
    · have c := C.c_bd hi h
      have b := rsh_ab c
      rw [← (C.w_left hi h).1] at b
      have d := C.d k h
      rw [C.e_left h, sq]
      rw [if_neg (show ¬ k = 24 + i by omega), if_pos h]
      by_cases h2 : k = i
      · rw [if_pos h2]
        rw [if_pos h2.symm] at b
        have m1 := Int.mul_le_mul b b (ab_bd _).1 (by decide)
        have m2 := Int.mul_le_mul m1 d.2 (by omega) (by decide)
        omega
      · rw [if_neg h2]
        rw [if_neg (Ne.symm h2)] at b
        have m1 := Int.mul_le_mul b b (ab_bd _).1 (by decide)
        have m2 := Int.mul_le_mul m1 d.2 (by omega) (by decide)
        omega
    · obtain ⟨m, rfl⟩ : ∃ m, k = 24 + m := ⟨k - 24, by omega⟩
      have d := C.q m (by omega)
      rw [cl_right hi (by omega), C.e_right (by omega), if_neg (show ¬ 24 + m = i by omega), if_neg h]
      by_cases h2 : m = i
      · rw [if_pos h2, if_pos (by omega)]; omega
      · rw [if_neg h2, if_neg (by omega)]; omega
  have s := sg_le key
  rw [sg_add, sg_add, sg_only (show i < 48 by omega) (fun k _ h => if_neg h), sg_only (show 24 + i < 48 by omega) (fun k _ h => if_neg h), if_pos rfl, if_pos rfl] at s
  have e3 : sg (fun k => if k < 24 then (1290000000000000000000000000000 : Int) else 0) 48 = 24 * 1290000000000000000000000000000 := by decide
  rw [e3] at s
  exact Int.le_trans s (by decide)
/-- The noise's numbers in the rows: One in its own, nothing behind. -/
def RgtP (W e : Nat → Int) (n : Nat) : Prop := ∀ m, m < 24 → WN W e n (m * 48 + (24 + m)) = 1073741824 ∧ ∀ i, m < i → i < 24 → WN W e n (i * 48 + (24 + m)) = 0
omit C in
theorem rgt_step {W e : Nat → Int} {n : Nat} (hn : n < 24) (p : RgtP W e n) (S : StO (WN W e n) e (23 - n)) : RgtP W e (n + 1) := by
  intro m hm
  have key : ∀ i, m ≤ i → i < 24 → WN W e (n + 1) (i * 48 + (24 + m)) = WN W e n (i * 48 + (24 + m)) := by
    intro i hmi hi
    show elW (WN W e n) e (23 - n) (23 - n) 0 (i * 48 + (24 + m)) = _
    by_cases h : i < 23 - n
    · rw [S.w i h _ (by omega), (p m hm).2 (23 - n) (by omega) (by omega), Int.mul_zero, show rsh 0 30 = 0 by decide, Int.sub_zero]
    · exact row_ge (by omega) (by omega)
  exact ⟨by rw [key m (Nat.le_refl _) hm]; exact (p m hm).1, fun i h1 h2 => by rw [key i (by omega) h2]; exact (p m hm).2 i h1 h2⟩
theorem ClH.run : RunH (stepW p F) (stepE p q) (RgtP (stepW p F) (stepE p q)) where
  he := C.wt
  p0 := fun m hm => ⟨by show stepW p F _ = _; rw [cl_right hm hm, if_pos rfl], fun i h1 h2 => by show stepW p F _ = _; rw [cl_right h2 hm, if_neg (by omega)]⟩
  g := fun i hi => C.g_own hi
  hN := fun n hn _ hg i hi => by
    have h := sg_le (f := fun k => ab (WN (stepW p F) (stepE p q) n (i * 48 + k))) (g := fun _ => 54760833024) (n := 48) fun k hk => ent_of_gr (a := rowF 48 (WN (stepW p F) (stepE p q) n) i) C.wt (hg i hi) hk (C.wt_big hk)
    rw [sg_const] at h
    omega
  hS := fun n hn p => .inl ⟨24 + (23 - n), by omega, (p (23 - n) (by omega)).1, C.wt_big (by omega)⟩
  hP := fun n hn p _ S => rgt_step hn p S
theorem ClH.flag : stepH p F q = false := by
  unfold stepH
  have h1 : loop1H q F 24 = false := by
    unfold loop1H row1H
    refine cl_orB fun i hi => ?_
    have := C.q i hi
    rw [(qV_id (a := q i) (by omega) (by omega)).2, cl_orB fun k hk => (C.fs (by omega)).2]; rfl
  have h2 : rowsH (condF p) (fS F 24 0) = false := by
    unfold rowsH rwH
    exact cl_orB fun k hk => cl_orB fun i hi => (C.w_left hi hk).2
  rw [C.cond.2, h1, h2, (C.run.all 24 (Nat.le_refl _)).2.flag]; rfl
/-- The exact product of the rows: F P F' + Q. -/
theorem ClH.gr_eq {i j : Nat} (hi : i < 24) (hj : j < 24) : ab (1152921504606846976 * (gr (rowF 48 (stepW p F) i) (rowF 48 (stepW p F) j) (stepE p q) - (if i = j then 1152921504606846976 * q i else 0)) - sg (fun a => F (i * 24 + a) * sg (fun b => F (j * 24 + b) * PP p a b) 24) 24) ≤ 400000000000000000000000000000000000000000 := by
  have e1 : gr (rowF 48 (stepW p F) i) (rowF 48 (stepW p F) j) (stepE p q) = sg (fun k => rsh (clC p F i k) 30 * rsh (clC p F j k) 30 * p (276 + k)) 24 + (if i = j then 1152921504606846976 * q i else 0) := by
    unfold gr
    rw [show (48 : Nat) = 24 + 24 from rfl, sg_app]
    congr 1
    · exact sg_congr fun k hk => by show stepW p F (i * 48 + k) * stepW p F (j * 48 + k) * _ = _; rw [(C.w_left hi hk).1, (C.w_left hj hk).1, C.e_left hk]
    · by_cases h : i = j
      · rw [if_pos h, sg_only hi fun m hm hne => by show stepW p F (i * 48 + (24 + m)) * _ * _ = _; rw [cl_right hi hm, if_neg hne, Int.zero_mul, Int.zero_mul]]
        show stepW p F (i * 48 + (24 + i)) * stepW p F (j * 48 + (24 + i)) * _ = _
        rw [cl_right hi hi, cl_right hj hi, if_pos rfl, if_pos h, C.e_right hi]
        rfl
      · rw [if_neg h]
        refine sg_zero fun m hm => ?_
        show stepW p F (i * 48 + (24 + m)) * stepW p F (j * 48 + (24 + m)) * _ = _
        rw [cl_right hi hm, cl_right hj hm]
        by_cases h2 : m = i
        · rw [if_neg (show ¬ m = j by omega), Int.mul_zero, Int.zero_mul]
        · rw [if_neg h2, Int.zero_mul, Int.zero_mul]
  have e2 : sg (fun a => F (i * 24 + a) * sg (fun b => F (j * 24 + b) * PP p a b) 24) 24 = sg (fun k => clC p F i k * clC p F j k * p (276 + k)) 24 := by
    have s1 : ∀ a, a < 24 → F (i * 24 + a) * sg (fun b => F (j * 24 + b) * PP p a b) 24 = sg (fun k => F (i * 24 + a) * uV p a k * (clC p F j k * p (276 + k))) 24 := by
      intro a ha
      have s2 : sg (fun b => F (j * 24 + b) * PP p a b) 24 = sg (fun k => uV p a k * (clC p F j k * p (276 + k))) 24 := by
        unfold PP clC
        rw [show (fun b => F (j * 24 + b) * sg (fun k => uV p a k * uV p b k * p (276 + k)) 24) = (fun b => sg (fun k => F (j * 24 + b) * (uV p a k * uV p b k * p (276 + k))) 24) from funext fun b => (sg_mul _ _ _).symm, sg_swap]
        refine sg_congr fun k _ => ?_
        rw [← sg_mulr, ← sg_mul]
        exact sg_congr fun b _ => by grind
      rw [s2, ← sg_mul]
      exact sg_congr fun k _ => by rw [Int.mul_assoc]
    rw [sg_congr s1, sg_swap]
    refine sg_congr fun k _ => ?_
    rw [sg_mulr, Int.mul_assoc]
    rfl
  rw [e1, e2, Int.add_sub_cancel]
  have e3 : 1152921504606846976 * sg (fun k => rsh (clC p F i k) 30 * rsh (clC p F j k) 30 * p (276 + k)) 24 - sg (fun k => clC p F i k * clC p F j k * p (276 + k)) 24 = sg (fun k => (1152921504606846976 * (rsh (clC p F i k) 30 * rsh (clC p F j k) 30) - clC p F i k * clC p F j k) * p (276 + k)) 24 := by
    have : sg (fun k => (1152921504606846976 * (rsh (clC p F i k) 30 * rsh (clC p F j k) 30) - clC p F i k * clC p F j k) * p (276 + k)) 24 + sg (fun k => clC p F i k * clC p F j k * p (276 + k)) 24 = 1152921504606846976 * sg (fun k => rsh (clC p F i k) 30 * rsh (clC p F j k) 30 * p (276 + k)) 24 := by
      rw [← sg_mul, ← sg_add]
      exact sg_congr fun k _ => by grind
    omega
  rw [e3]
  have b1 : ∀ k, k < 24 → ab (1152921504606846976 * (rsh (clC p F i k) 30 * rsh (clC p F j k) 30) - clC p F i k * clC p F j k) ≤ 1400000000000000000000000000 := by
    intro k hk
    have x1 := C.c_bd hi hk
    have x2 := C.c_bd hj hk
    have r1 := rsh_two (clC p F i k)
    have r2 := rsh_two (clC p F j k)
    obtain ⟨c, hc⟩ : ∃ c, clC p F i k = c := ⟨_, rfl⟩
    obtain ⟨d, hd⟩ : ∃ d, clC p F j k = d := ⟨_, rfl⟩
    rw [hc] at x1 r1 ⊢
    rw [hd] at x2 r2 ⊢
    obtain ⟨r, hr⟩ : ∃ r, rsh c 30 = r := ⟨_, rfl⟩
    obtain ⟨s, hs⟩ : ∃ s, rsh d 30 = s := ⟨_, rfl⟩
    rw [hr] at r1 ⊢
    rw [hs] at r2 ⊢
    have q1 : ab c ≤ 1274518698021224448 + 1000000000 := by split at x1 <;> omega
    have q2 : ab d ≤ 1274518698021224448 + 1000000000 := by split at x2 <;> omega
    have e4 : 1152921504606846976 * (r * s) - c * d = (1073741824 * r - c) * d + c * (1073741824 * s - d) + (1073741824 * r - c) * (1073741824 * s - d) := by grind
    have m1 := ab_mul_le (show ab (1073741824 * r - c) ≤ 536870912 by omega) q2
    have m2 := ab_mul_le q1 (show ab (1073741824 * s - d) ≤ 536870912 by omega)
    have m3 := ab_mul_le (show ab (1073741824 * r - c) ≤ 536870912 by omega) (show ab (1073741824 * s - d) ≤ 536870912 by omega)
    rw [e4]
    have t1 := ab_add ((1073741824 * r - c) * d + c * (1073741824 * s - d)) ((1073741824 * r - c) * (1073741824 * s - d))
    have t2 := ab_add ((1073741824 * r - c) * d) (c * (1073741824 * s - d))
    omega
  refine Int.le_trans (sg_bd b1) ?_
  have h := sg_le (f := fun k => ab (p (276 + k))) (g := fun _ => 8813272891391) (n := 24) fun k hk => by
    have := C.d k hk
    exact le_ab (by omega)
  rw [sg_const] at h
  omega
end
end Go.Proofs.Ytipkdkeacdmnaaa
/- Runs whose left half is unit triangular (F is One, but for a state that is forgotten): the sizes of the rows' numbers. No program beyond the numbers' names. -/
namespace Go.Proofs.Ytipkdkeacdmnaaa
/-- The rows at the start: kx is the state that is forgotten (24: none). -/
structure TriH (W e : Nat → Int) (kx : Nat) : Prop where
  wt : WtB e
  low : ∀ i m, m < i → i < 24 → W (i * 48 + m) = 0
  one : ∀ i, i < 24 → i ≠ kx → W (i * 48 + i) = 1073741824
  up : ∀ i m, i < m → m < 24 → i ≠ kx → ab (W (i * 48 + m)) ≤ 268435456
  zk : kx < 24 → ∀ m, m < 24 → W (kx * 48 + m) = 0
  right : ∀ i m, i < 24 → m < 24 → W (i * 48 + (24 + m)) = if m = i then 1073741824 else 0
  big : ∀ k, k < 24 → 17179869184 ≤ e k
  ek : kx < 24 → 1 ≤ e (24 + kx)
  g : ∀ i, i < 24 → gr (rowF 48 W i) (rowF 48 W i) e ≤ 50700000000000000000000000000000
theorem stD_bd (W e : Nat → Int) (j : Nat) : 1 ≤ stD W e j ∧ stD W e j ≤ 72057594037927936 := by
  unfold stD varV clampV
  split
  · omega
  · split
    · omega
    · split <;> omega
/-- A row that has nothing in common with row j. -/
theorem stU_zero {W e : Nat → Int} {j i : Nat} (he : WtB e) (hW : RwB W e j) (hi : i < j) (h : ∀ k, k < 48 → W (i * 48 + k) = 0 ∨ W (j * 48 + k) = 0) : stU W e j i = 0 := by
  have hz : sg (fun k => W (i * 48 + k) * stY W e j k) 48 = 0 := sg_zero fun k hk => by
    rcases h k hk with h | h
    · rw [h, Int.zero_mul]
    · rw [(st_y he hW hk).1, h, Int.zero_mul, show rsh 0 30 = 0 by decide, Int.mul_zero]
  have du := dotV_sg (A := rowF 48 W i) (B := stY W e j) (n := 48) (fun k hk => ⟨sb_ab (rw_ent hW (Nat.le_of_lt hi) hk) (by decide), (st_y he hW hk).2.2⟩) (by unfold rowF; rw [hz]; unfold SB; decide)
  have du1 : dotV 30 (rowF 48 W i) (stY W e j) 48 = 0 := by rw [du.1]; unfold rowF; rw [hz]; rfl
  have d := stD_bd W e j
  have r0 : rdiv (0 * 1073741824) (stD W e j) = 0 := by rw [Int.zero_mul]; exact cl_rdiv0 (by omega)
  have q := cl_divV (a := 0) (b := stD W e j) (by unfold SB; decide) (by unfold SB; omega) (by omega) (by rw [r0]; unfold SB; decide)
  unfold stU; rw [du1, q.1, r0]
def OO : Nat → Int | 0 => 1 | n + 1 => 1073741824 * OO n
theorem OO_pos : ∀ n, 0 < OO n
  | 0 => by decide
  | n + 1 => by have := OO_pos n; unfold OO; omega
/-- The rows as combinations (t, times 2^30 with each stage) of rows that hardly change. -/
structure TrP (W e : Nat → Int) (kx n : Nat) (t A V : Nat → Nat → Int) : Prop where
  z1 : ∀ i m, m < i → i < 24 → WN W e n (i * 48 + m) = 0
  z2 : ∀ i, i < 24 → i ≠ kx → WN W e n (i * 48 + i) = 1073741824
  z3 : RgtP W e n
  k1 : kx < 24 → kx < 24 - n → ∀ k, k < 48 → k ≠ 24 + kx → WN W e n (kx * 48 + k) = 0
  k2 : kx < 24 → ∀ i, i < 24 → i ≠ kx → WN W e n (i * 48 + (24 + kx)) = 0
  t1 : ∀ i, i < 24 - n → t i i = OO n
  t2 : ∀ i p, i < 24 - n → p ≠ i → p < 24 - n → t i p = 0
  t4 : ∀ i p, i < 24 - n → i ≠ kx → p = kx → t i p = 0
  a1 : ∀ p, p < 24 → p ≠ kx → A p p = 1152921504606846976
  a2 : ∀ p m, m < p → p < 24 → A p m = 0
  a3 : ∀ p m, p < m → m < 24 → p ≠ kx → ab (A p m) ≤ 288230376151711744 + n * 536870912
  a4 : kx < 24 → ∀ m, m < 24 → A kx m = 0
  v1 : ∀ p, p < 24 → V p p = 1152921504606846976
  v2 : ∀ p m, m < 24 → p < 24 → p ≠ m → ab (V p m) ≤ n * 536870912
  r1 : ∀ i m, i < 24 - n → m < 24 → OO (n + 1) * WN W e n (i * 48 + m) = sg (fun p => t i p * A p m) 24
  r2 : ∀ i m, i < 24 - n → m < 24 → OO (n + 1) * WN W e n (i * 48 + (24 + m)) = sg (fun p => t i p * V p m) 24
theorem comb (O o u ρ w wj r : Int) {ti tj A : Nat → Int} {a : Nat} (ha : a < 24) (h1 : o * w = sg (fun p => ti p * A p) 24) (h2 : o * wj = sg (fun p => tj p * A p) 24) (hρ : O * r = u * wj + ρ) (B : Nat → Int) (hB : ∀ p, p < 24 → (O * ti p - u * tj p) * B p = (O * ti p - u * tj p) * A p - (if p = a then o * ρ else 0)) :
    O * o * (w - r) = sg (fun p => (O * ti p - u * tj p) * B p) 24 := by
  have e1 : sg (fun p => (O * ti p - u * tj p) * B p) 24 + o * ρ = sg (fun p => (O * ti p - u * tj p) * A p) 24 := by
    have : sg (fun p => if p = a then o * ρ else 0) 24 = o * ρ := by rw [sg_only ha fun k _ h => if_neg h, if_pos rfl]
    rw [← this, ← sg_add]
    exact sg_congr fun p hp => by rw [hB p hp]; omega
  have e2 : sg (fun p => (O * ti p - u * tj p) * A p) 24 + u * sg (fun p => tj p * A p) 24 = O * sg (fun p => ti p * A p) 24 := by
    rw [← sg_mul, ← sg_mul, ← sg_add]
    exact sg_congr fun p _ => by grind
  rw [← h1, ← h2] at e2
  grind
/-- What was rounded when row j was taken from row i. -/
def rhoF (W e : Nat → Int) (j i k : Nat) : Int := 1073741824 * rsh (stU W e j i * W (j * 48 + k)) 30 - stU W e j i * W (j * 48 + k)
theorem rho_bd (W e : Nat → Int) (j i k : Nat) : ab (rhoF W e j i k) ≤ 536870912 := by
  have := rsh_two (stU W e j i * W (j * 48 + k))
  unfold rhoF; omega
theorem rho_0 {W e : Nat → Int} {j i k : Nat} (h : stU W e j i = 0 ∨ W (j * 48 + k) = 0) : rhoF W e j i k = 0 := by
  unfold rhoF
  rcases h with h | h
  · rw [h, Int.zero_mul, show rsh 0 30 = 0 by decide]; rfl
  · rw [h, Int.mul_zero, show rsh 0 30 = 0 by decide]; rfl
theorem tr_start {W e : Nat → Int} {kx : Nat} (H : TriH W e kx) : TrP W e kx 0 (fun i p => if p = i then 1 else 0) (fun p m => 1073741824 * W (p * 48 + m)) (fun p m => 1073741824 * W (p * 48 + (24 + m))) where
  z1 := H.low
  z2 := H.one
  z3 := fun m hm => ⟨by show W _ = _; rw [H.right m m hm hm, if_pos rfl], fun i h1 h2 => by show W _ = _; rw [H.right i m h2 hm, if_neg (by omega)]⟩
  k1 := fun h _ k hk hne => by
    show W _ = _
    by_cases h2 : k < 24
    · exact H.zk h k h2
    · obtain ⟨m, rfl⟩ : ∃ m, k = 24 + m := ⟨k - 24, by omega⟩
      rw [H.right kx m h (by omega), if_neg (by omega)]
  k2 := fun h i hi hne => by show W _ = _; rw [H.right i kx hi h, if_neg (by omega)]
  t1 := fun i _ => by rw [if_pos rfl]; rfl
  t2 := fun i p _ h _ => if_neg h
  t4 := fun i p _ h h2 => if_neg (by omega)
  a1 := fun p hp hne => by rw [H.one p hp hne]; rfl
  a2 := fun p m h1 h2 => by rw [H.low p m h1 h2]; rfl
  a3 := fun p m h1 h2 h3 => by
    have := H.up p m h1 h2 h3
    rw [ab_mul, show ab 1073741824 = 1073741824 from rfl]; omega
  a4 := fun h m hm => by rw [H.zk h m hm]; rfl
  v1 := fun p hp => by rw [H.right p p hp hp, if_pos rfl]; rfl
  v2 := fun p m hm hp hne => by rw [H.right p m hp hm, if_neg (Ne.symm hne)]; decide
  r1 := fun i m hi _ => by
    show 1073741824 * 1 * W (i * 48 + m) = _
    rw [sg_only (show i < 24 by omega) fun p _ h => by rw [if_neg h, Int.zero_mul], if_pos rfl]; omega
  r2 := fun i m hi _ => by
    show 1073741824 * 1 * W (i * 48 + (24 + m)) = _
    rw [sg_only (show i < 24 by omega) fun p _ h => by rw [if_neg h, Int.zero_mul], if_pos rfl]; omega
theorem tr_step {W e : Nat → Int} {kx n : Nat} {t A V : Nat → Nat → Int} (H : TriH W e kx) (hn : n < 24) (T : TrP W e kx n t A V) (hW : RwB (WN W e n) e (23 - n)) (S : StO (WN W e n) e (23 - n)) :
    TrP W e kx (n + 1) (fun i p => if i < 23 - n then 1073741824 * t i p - stU (WN W e n) e (23 - n) i * t (23 - n) p else t i p)
      (fun p m => if p < 23 - n then A p m - rhoF (WN W e n) e (23 - n) p m else A p m) (fun p m => if p < 23 - n then V p m - rhoF (WN W e n) e (23 - n) p (24 + m) else V p m) := by
  obtain ⟨j, hj⟩ : ∃ j, 23 - n = j := ⟨_, rfl⟩
  have hj24 : j < 24 := by omega
  have e24 : 24 - n = j + 1 := by omega
  have e25 : 24 - (n + 1) = j := by omega
  have wge : ∀ i k, j ≤ i → k < 48 → WN W e (n + 1) (i * 48 + k) = WN W e n (i * 48 + k) := fun i k hi hk => by
    show elW (WN W e n) e (23 - n) (23 - n) 0 (i * 48 + k) = _
    exact row_ge (by omega) hk
  have wlt : ∀ i k, i < j → k < 48 → WN W e (n + 1) (i * 48 + k) = WN W e n (i * 48 + k) - rsh (stU (WN W e n) e j i * WN W e n (j * 48 + k)) 30 := fun i k hi hk => by
    have := S.w i (by omega) k hk
    rw [hj] at this
    show elW (WN W e n) e (23 - n) (23 - n) 0 (i * 48 + k) = _
    rw [hj]; exact this
  rw [hj] at hW
  rw [hj]
  have same : ∀ i k, i < 24 → k < 48 → WN W e n (j * 48 + k) = 0 → WN W e (n + 1) (i * 48 + k) = WN W e n (i * 48 + k) := fun i k hi hk h => by
    by_cases h2 : i < j
    · rw [wlt i k h2 hk, h, Int.mul_zero, show rsh 0 30 = 0 by decide, Int.sub_zero]
    · exact wge i k (by omega) hk
  -- the state that is forgotten has nothing in common with any
  have ukx : ∀ i, kx < 24 → i < j → (i = kx ∨ j = kx) → stU (WN W e n) e j i = 0 := fun i hk hi h => by
    refine stU_zero H.wt hW hi fun k hk2 => ?_
    rcases h with h | h
    · subst h
      by_cases h3 : k = 24 + i
      · right; rw [h3]; exact T.k2 hk j hj24 (by omega)
      · left; exact T.k1 hk (by omega) k hk2 h3
    · by_cases h3 : k = 24 + kx
      · left; rw [h3]; exact T.k2 hk i (by omega) (by omega)
      · right; rw [h]; exact T.k1 hk (by omega) k hk2 h3
  have jr : ∀ m, m < j → WN W e n (j * 48 + (24 + m)) = 0 := fun m hm => (T.z3 m (by omega)).2 j hm hj24
  have jl : ∀ m, m < j → WN W e n (j * 48 + m) = 0 := fun m hm => T.z1 j m hm hj24
  refine ⟨fun i m h1 h2 => ?_, fun i h1 h2 => ?_, rgt_step hn T.z3 S, fun h1 h2 k hk hne => ?_, fun h1 i hi hne => ?_, fun i hi => ?_, fun i p hi h1 h2 => ?_, fun i p hi h1 h2 => ?_, fun p hp hne => ?_, fun p m h1 h2 => ?_, fun p m h1 h2 h3 => ?_, fun h1 m hm => ?_, fun p hp => ?_, fun p m hm hp hne => ?_, fun i m hi hm => ?_, fun i m hi hm => ?_⟩
  · by_cases h3 : i < j
    · rw [same i m h2 (by omega) (jl m (by omega))]; exact T.z1 i m h1 h2
    · rw [wge i m (by omega) (by omega)]; exact T.z1 i m h1 h2
  · by_cases h3 : i < j
    · rw [same i i h1 (by omega) (jl i h3)]; exact T.z2 i h1 h2
    · rw [wge i i (by omega) (by omega)]; exact T.z2 i h1 h2
  · rw [wlt kx k (by omega) hk, ukx kx h1 (by omega) (.inl rfl), Int.zero_mul, show rsh 0 30 = 0 by decide, Int.sub_zero]
    exact T.k1 h1 (by omega) k hk hne
  · by_cases h3 : i < j
    · by_cases h4 : j = kx
      · rw [wlt i (24 + kx) h3 (by omega), ukx i h1 h3 (.inr h4), Int.zero_mul, show rsh 0 30 = 0 by decide, Int.sub_zero]
        exact T.k2 h1 i hi hne
      · rw [same i (24 + kx) hi (by omega) (T.k2 h1 j hj24 h4)]; exact T.k2 h1 i hi hne
    · rw [wge i (24 + kx) (by omega) (by omega)]; exact T.k2 h1 i hi hne
  · rw [if_pos (by omega), T.t1 i (by omega), T.t2 j i (by omega) (by omega) (by omega), Int.mul_zero, Int.sub_zero]; rfl
  · rw [if_pos (by omega), T.t2 i p (by omega) h1 (by omega), T.t2 j p (by omega) (by omega) (by omega), Int.mul_zero, Int.mul_zero]; rfl
  · rw [if_pos (by omega), T.t4 i p (by omega) h1 h2, Int.mul_zero]
    by_cases h3 : kx < 24
    · by_cases h4 : j = kx
      · rw [ukx i h3 (by omega) (.inr h4), Int.zero_mul]; rfl
      · rw [T.t4 j p (by omega) h4 h2, Int.mul_zero]; rfl
    · rw [T.t4 j p (by omega) (by omega) h2, Int.mul_zero]; rfl
  · by_cases h3 : p < j
    · rw [if_pos h3, rho_0 (.inr (jl p h3)), Int.sub_zero]; exact T.a1 p hp hne
    · rw [if_neg h3]; exact T.a1 p hp hne
  · by_cases h3 : p < j
    · rw [if_pos h3, rho_0 (.inr (jl m (by omega))), Int.sub_zero]; exact T.a2 p m h1 h2
    · rw [if_neg h3]; exact T.a2 p m h1 h2
  · have a := T.a3 p m h1 h2 h3
    have b := rho_bd (WN W e n) e j p m
    rw [Int.natCast_add, Int.add_mul]
    split
    · have c := ab_add (A p m) (-(rhoF (WN W e n) e j p m))
      rw [ab_neg] at c
      rw [Int.sub_eq_add_neg]; omega
    · omega
  · by_cases h3 : kx < j
    · rw [if_pos h3, rho_0 (.inl (ukx kx h1 h3 (.inl rfl))), Int.sub_zero]; exact T.a4 h1 m hm
    · rw [if_neg h3]; exact T.a4 h1 m hm
  · by_cases h3 : p < j
    · rw [if_pos h3, rho_0 (.inr (jr p h3)), Int.sub_zero]; exact T.v1 p hp
    · rw [if_neg h3]; exact T.v1 p hp
  · have a := T.v2 p m hm hp hne
    have b := rho_bd (WN W e n) e j p (24 + m)
    rw [Int.natCast_add, Int.add_mul]
    split
    · have c := ab_add (V p m) (-(rhoF (WN W e n) e j p (24 + m)))
      rw [ab_neg] at c
      rw [Int.sub_eq_add_neg]; omega
    · omega
  · have hi' : i < j := by omega
    rw [wlt i m hi' (by omega)]
    have c := comb 1073741824 (OO (n + 1)) (stU (WN W e n) e j i) (rhoF (WN W e n) e j i m) _ _ (rsh (stU (WN W e n) e j i * WN W e n (j * 48 + m)) 30) (show i < 24 by omega) (T.r1 i m (by omega) hm) (T.r1 j m (by omega) hm) (by unfold rhoF; omega) (fun p => if p < j then A p m - rhoF (WN W e n) e j p m else A p m) (fun p hp => by
      by_cases h3 : p = i
      · subst h3
        rw [if_pos hi', if_pos rfl, T.t1 p (by omega), T.t2 j p (by omega) (by omega) (by omega), Int.mul_zero, Int.sub_zero, Int.mul_sub]; rfl
      · rw [if_neg h3, Int.sub_zero]
        by_cases h4 : p < j
        · rw [T.t2 i p (by omega) h3 (by omega), T.t2 j p (by omega) (by omega) (by omega), Int.mul_zero, Int.mul_zero, Int.sub_zero, Int.zero_mul, Int.zero_mul]
        · rw [if_neg h4])
    refine Eq.trans (show OO (n + 1 + 1) * _ = 1073741824 * OO (n + 1) * _ from rfl) (c.trans (sg_congr fun p hp => ?_))
    simp only [if_pos hi']
  · have hi' : i < j := by omega
    rw [wlt i (24 + m) hi' (by omega)]
    have c := comb 1073741824 (OO (n + 1)) (stU (WN W e n) e j i) (rhoF (WN W e n) e j i (24 + m)) _ _ (rsh (stU (WN W e n) e j i * WN W e n (j * 48 + (24 + m))) 30) (show i < 24 by omega) (T.r2 i m (by omega) hm) (T.r2 j m (by omega) hm) (by unfold rhoF; omega) (fun p => if p < j then V p m - rhoF (WN W e n) e j p (24 + m) else V p m) (fun p hp => by
      by_cases h3 : p = i
      · subst h3
        rw [if_pos hi', if_pos rfl, T.t1 p (by omega), T.t2 j p (by omega) (by omega) (by omega), Int.mul_zero, Int.sub_zero, Int.mul_sub]; rfl
      · rw [if_neg h3, Int.sub_zero]
        by_cases h4 : p < j
        · rw [T.t2 i p (by omega) h3 (by omega), T.t2 j p (by omega) (by omega) (by omega), Int.mul_zero, Int.mul_zero, Int.sub_zero, Int.zero_mul, Int.zero_mul]
        · rw [if_neg h4])
    refine Eq.trans (show OO (n + 1 + 1) * _ = 1073741824 * OO (n + 1) * _ from rfl) (c.trans (sg_congr fun p hp => ?_))
    simp only [if_pos hi']
end Go.Proofs.Ytipkdkeacdmnaaa
/- Runs whose left half is unit triangular: nothing outgrows. No program beyond the numbers' names. -/
namespace Go.Proofs.Ytipkdkeacdmnaaa
def cN : Nat → Int | 0 => 0 | m + 1 => cN m + cN m / 4 + 53
theorem cN_bd {m : Nat} (h : m ≤ 24) : 0 ≤ cN m ∧ cN m ≤ 44500 := by
  have : ∀ m : Fin 25, 0 ≤ cN m.val ∧ cN m.val ≤ 44500 := by decide +kernel
  exact this ⟨m, by omega⟩
section
variable {W e : Nat → Int} {kx n : Nat} {t A V : Nat → Nat → Int} (H : TriH W e kx) (T : TrP W e kx n t A V) (hn : n ≤ 24)
include H T hn
theorem tr_size {i : Nat} (hi : i < 24 - n) (hx : i ≠ kx) (hg : gr (rowF 48 (WN W e n) i) (rowF 48 (WN W e n) i) e ≤ 50706024009129176059868128215040) : ∀ m, m ≤ 24 → sg (fun p => ab (t i p)) m ≤ cN m * OO n
  | 0, _ => by simp [sg, cN]
  | m + 1, hm => by
    have ih := tr_size hi hx hg m (by omega)
    have hc := cN_bd (m := m) (by omega)
    have hP := OO_pos n
    have s0 : 0 ≤ sg (fun p => ab (t i p)) m := sg_nonneg fun p _ => (ab_bd _).1
    have e1 : cN (m + 1) * OO n = cN m * OO n + cN m / 4 * OO n + 53 * OO n := by
      show (cN m + cN m / 4 + 53) * OO n = _
      rw [Int.add_mul, Int.add_mul]
    have z0 : 0 ≤ cN m / 4 * OO n := Int.mul_nonneg (by omega) (by omega)
    have z1 : cN m / 4 * OO n ≤ 12500 * OO n := Int.mul_le_mul_of_nonneg_right (by omega) (by omega)
    have y1 : cN m * OO n ≤ (4 * (cN m / 4) + 3) * OO n := Int.mul_le_mul_of_nonneg_right (by omega) (by omega)
    rw [Int.add_mul, Int.mul_assoc] at y1
    show sg (fun p => ab (t i p)) m + ab (t i m) ≤ _
    rw [e1]
    by_cases hk : m = kx
    · rw [T.t4 i m hi hx hk, show ab 0 = 0 from rfl]
      omega
    · have r := T.r1 i m hi (by omega)
      have e2 : sg (fun p => t i p * A p m) 24 = sg (fun p => t i p * A p m) m + t i m * 1152921504606846976 := by
        have e3 : sg (fun p => t i p * A p m) 24 = sg (fun p => t i p * A p m) (m + 1) := by
          obtain ⟨k, hk⟩ : ∃ k, 24 = (m + 1) + k := ⟨24 - (m + 1), by omega⟩
          rw [hk, sg_app, sg_zero (n := k) fun q _ => ?_, Int.add_zero]
          rw [T.a2 (m + 1 + q) m (by omega) (by omega), Int.mul_zero]
        rw [e3]
        show sg (fun p => t i p * A p m) m + t i m * A m m = _
        rw [T.a1 m (by omega) hk]
      have b1 : ab (sg (fun p => t i p * A p m) m) ≤ 288230389036613632 * sg (fun p => ab (t i p)) m := by
        rw [show (fun p => t i p * A p m) = (fun p => A p m * t i p) from funext fun p => Int.mul_comm _ _]
        refine sg_bd fun p hp => ?_
        by_cases h2 : p = kx
        · subst h2
          rw [T.a4 (by omega) m (by omega)]; decide
        · have := T.a3 p m hp (by omega) h2
          have : (n : Int) * 536870912 ≤ 24 * 536870912 := by omega
          omega
      have w := ent_of_gr (a := rowF 48 (WN W e n) i) H.wt hg (k := m) (by omega) (H.big m (by omega))
      have w2 : ab (WN W e n (i * 48 + m)) ≤ 54760833024 := w
      have b2 : ab (OO (n + 1) * WN W e n (i * 48 + m)) ≤ 1073741824 * 54760833024 * OO n := by
        rw [ab_mul]
        have : ab (OO (n + 1)) = 1073741824 * OO n := by
          show ab (1073741824 * OO n) = _
          unfold ab; omega
        rw [this]
        have := Int.mul_le_mul_of_nonneg_left w2 (show 0 ≤ 1073741824 * OO n by omega)
        have e5 : 1073741824 * OO n * 54760833024 = 1073741824 * 54760833024 * OO n := by rw [Int.mul_assoc, Int.mul_comm (OO n), ← Int.mul_assoc]
        omega
      rw [r, e2] at b2
      have a1 := ab_bd (sg (fun p => t i p * A p m) m)
      have a2 := ab_le b2
      have a3 : ab (t i m) = t i m ∨ ab (t i m) = -(t i m) := by unfold ab; omega
      generalize sg (fun p => t i p * A p m) m = X at *
      generalize sg (fun p => ab (t i p)) m = s at *
      generalize cN m * OO n = y at *
      generalize cN m / 4 * OO n = z at *
      omega
theorem tr_n1 {i : Nat} (hi : i < 24 - n) (hg : gr (rowF 48 (WN W e n) i) (rowF 48 (WN W e n) i) e ≤ 50706024009129176059868128215040) : sg (fun k => ab (WN W e n (i * 48 + k))) 48 ≤ 50000000000000 := by
  by_cases hx : i = kx
  · subst hx
    rw [sg_only (a := 24 + i) (by omega) fun k hk hne => by rw [T.k1 (by omega) (by omega) k hk hne]; rfl, (T.z3 i (by omega)).1]
    decide
  · have hP := OO_pos n
    have s24 := tr_size H T hn hi hx hg 24 (Nat.le_refl _)
    have c24 : cN 24 ≤ 44500 := (cN_bd (Nat.le_refl _)).2
    have e48 : sg (fun k => ab (WN W e n (i * 48 + k))) 48 = sg (fun k => ab (WN W e n (i * 48 + k))) 24 + sg (fun m => ab (WN W e n (i * 48 + (24 + m)))) 24 := sg_app (fun k => ab (WN W e n (i * 48 + k))) 24 24
    rw [e48]
    have l : sg (fun k => ab (WN W e n (i * 48 + k))) 24 ≤ 24 * 54760833024 := by
      have h := sg_le (f := fun k => ab (WN W e n (i * 48 + k))) (g := fun _ => 54760833024) (n := 24) fun k hk => ent_of_gr (a := rowF 48 (WN W e n) i) H.wt hg (k := k) (by omega) (H.big k hk)
      rwa [sg_const] at h
    have hv : ∀ p, p < 24 → sg (fun m => ab (V p m)) 24 ≤ 1152921813844492288 := fun p hp => by
      have h := sg_le (f := fun m => ab (V p m)) (g := fun m => 12884901888 + (if m = p then 1152921504606846976 else 0)) (n := 24) fun m hm => by
        by_cases h : m = p
        · subst h; rw [T.v1 m hm, if_pos rfl]; decide
        · have := T.v2 p m hm hp (Ne.symm h)
          have : (n : Int) * 536870912 ≤ 24 * 536870912 := by omega
          rw [if_neg h]; omega
      rw [sg_add, sg_const, sg_only hp fun m _ hm => if_neg hm, if_pos rfl] at h
      omega
    have r : 1073741824 * OO n * sg (fun m => ab (WN W e n (i * 48 + (24 + m)))) 24 ≤ 1152921813844492288 * sg (fun p => ab (t i p)) 24 := by
      rw [← sg_mul]
      have h1 : ∀ m, m < 24 → 1073741824 * OO n * ab (WN W e n (i * 48 + (24 + m))) ≤ sg (fun p => ab (t i p) * ab (V p m)) 24 := fun m hm => by
        have e1 : 1073741824 * OO n * ab (WN W e n (i * 48 + (24 + m))) = ab (OO (n + 1) * WN W e n (i * 48 + (24 + m))) := by
          rw [ab_mul]
          congr 1
          show _ = ab (1073741824 * OO n)
          unfold ab; omega
        rw [e1, T.r2 i m hi hm]
        refine Int.le_trans (sg_ab _ _) (Int.le_of_eq (sg_congr fun p _ => ab_mul _ _))
      refine Int.le_trans (sg_le h1) ?_
      rw [sg_swap (fun m p => ab (t i p) * ab (V p m)), ← sg_mul]
      refine sg_le fun p hp => ?_
      rw [sg_mul, Int.mul_comm (1152921813844492288 : Int)]
      exact Int.mul_le_mul_of_nonneg_left (hv p hp) (ab_bd _).1
    have q : OO n * (1073741824 * sg (fun m => ab (WN W e n (i * 48 + (24 + m)))) 24) ≤ OO n * (1152921813844492288 * 44500) := by
      have a1 : cN 24 * OO n ≤ 44500 * OO n := Int.mul_le_mul_of_nonneg_right c24 (by omega)
      have e1 : OO n * (1073741824 * sg (fun m => ab (WN W e n (i * 48 + (24 + m)))) 24) = 1073741824 * OO n * sg (fun m => ab (WN W e n (i * 48 + (24 + m)))) 24 := by rw [← Int.mul_assoc, Int.mul_comm (OO n)]
      omega
    have q2 := Int.le_of_mul_le_mul_left q hP
    omega
end
theorem TriH.run {W e : Nat → Int} {kx : Nat} (H : TriH W e kx) : RunH W e (fun n => ∃ t A V, TrP W e kx n t A V) where
  he := H.wt
  p0 := ⟨_, _, _, tr_start H⟩
  g := H.g
  hN := fun n hn ⟨t, A, V, T⟩ hg i hi => tr_n1 H T (by omega) (by omega) (hg i hi)
  hS := fun n hn ⟨t, A, V, T⟩ => by
    by_cases h : 23 - n = kx
    · refine .inr ⟨24 + (23 - n), by omega, (T.z3 (23 - n) (by omega)).1, by rw [h]; exact H.ek (by omega), fun k hk hne => ?_, fun i hi => ?_⟩
      · rw [h]; exact T.k1 (by omega) (by omega) k hk (by omega)
      · rw [h]; exact T.k2 (by omega) i (by omega) (by omega)
    · exact .inl ⟨23 - n, by omega, T.z2 (23 - n) (by omega) h, H.big _ (by omega)⟩
  hP := fun n hn ⟨t, A, V, T⟩ hW S => ⟨_, _, _, tr_step H hn T hW S⟩
theorem TriH.nrm {W e : Nat → Int} {kx : Nat} (H : TriH W e kx) {l : Nat} (hl : l < 24) (hx : l ≠ kx) : Nrm (WN W e (23 - l)) e l := by
  obtain ⟨t, A, V, T⟩ := (H.run.all (23 - l) (by omega)).1
  exact ⟨l, by omega, T.z2 l hl hx, H.big l hl⟩
end Go.Proofs.Ytipkdkeacdmnaaa
/- The covariance that is carried on is F P F' + Q, within a little: as the law reckons it (plain law of ThorntonClose). No program beyond the numbers' names. -/
namespace Go.Proofs.Ytipkdkeacdmnaaa
section
variable {p F q : Nat → Int} (C : ClH p F q)
include C
theorem ClH.pp_bd (a b : Nat) : ab (PP p a b) ≤ 243864361133750000000000000000000 := by
  have h := sg_bd (x := fun k => uV p a k * uV p b k) (y := fun k => p (276 + k)) (m := 1152921504606846976) (n := 24) fun k hk => Int.le_trans (ab_mul_le (C.uv1 hk) (C.uv1 hk)) (by decide)
  refine Int.le_trans h ?_
  have h := sg_le (f := fun k => ab (p (276 + k))) (g := fun _ => 8813272891391) (n := 24) fun k hk => by
    have := C.d k hk
    exact le_ab (by omega)
  rw [sg_const] at h
  omega
theorem ClH.at_p {a b : Nat} (ha : a < 24) (hb : b < 24) : ab (1152921504606846976 * atV p a b - PP p a b) ≤ 14411518807585587200 ∧ atH p a b = false ∧ ab (atV p a b) ≤ 212000000000000 := by
  have h := at_pp (f := p) ha hb (fun a k _ hk => C.uv1 hk) (by decide) (fun k hk => by have := C.d k hk; omega) (Int.le_trans (C.pp_bd a b) (by decide))
  have h2 := C.pp_bd a b
  have c := ab_bd (1152921504606846976 * atV p a b - PP p a b)
  have d := ab_bd (PP p a b)
  exact ⟨by omega, h.2, le_ab (by omega)⟩
theorem ClH.f_sum {i : Nat} (hi : i < 24) : sg (fun m => ab (F (i * 24 + m))) 24 ≤ 1476394984 := by
  have h := sg_le (f := fun m => ab (F (i * 24 + m))) (g := fun m => 16777215 + (if m = i then 1073741824 else 0)) (n := 24) fun m hm => by
    have := C.fsb hi hm
    by_cases h : i = m
    · rw [if_pos h] at this; rw [if_pos h.symm]; omega
    · rw [if_neg h] at this; rw [if_neg (Ne.symm h)]; omega
  rw [sg_add, sg_const, sg_only hi fun m _ hm => if_neg hm, if_pos rfl] at h
  omega
omit C in
theorem sg_bd2 {x y : Nat → Int} {m s : Int} {n : Nat} (hm : 0 ≤ m) (h : ∀ k, k < n → ab (x k) ≤ m) (hs : sg (fun k => ab (y k)) n ≤ s) : ab (sg (fun k => x k * y k) n) ≤ m * s :=
  Int.le_trans (sg_bd h) (Int.mul_le_mul_of_nonneg_left hs hm)
/-- The law's first sums: P times a row of F. -/
def clX (p F : Nat → Int) (j a : Nat) : Int := dotV 30 (fun b => atV p a b) (rowF 24 F j) 24
def clQ (p F : Nat → Int) (j a : Nat) : Int := sg (fun b => F (j * 24 + b) * PP p a b) 24
theorem ClH.x_err {j a : Nat} (hj : j < 24) (ha : a < 24) : ab (1237940039285380274899124224 * clX p F j a - clQ p F j a) ≤ 22000000000000000000000000000 ∧ dotH 30 (fun b => atV p a b) (rowF 24 F j) 24 = false ∧ ab (clX p F j a) ≤ 293000000000000 := by
  have hf := C.f_sum hj
  have s1 := sg_bd2 (by decide) (fun b hb => (C.at_p ha hb).2.2) hf
  have r1 := rsh_ab (m := 293000000000000) (Int.le_trans s1 (by decide))
  have dv := dotV_sg (A := fun b => atV p a b) (B := rowF 24 F j) (n := 24) (fun b hb => ⟨sb_ab (C.at_p ha hb).2.2 (by decide), by
    have := C.fsb hj hb
    unfold rowF
    split at this <;> exact sb_ab this (by decide)⟩) (sb_ab r1 (by decide))
  have e1 : clX p F j a = rsh (sg (fun b => atV p a b * F (j * 24 + b)) 24) 30 := dv.1
  rw [e1]
  refine ⟨?_, dv.2, r1⟩
  have e2 : 1152921504606846976 * sg (fun b => atV p a b * F (j * 24 + b)) 24 = sg (fun b => (1152921504606846976 * atV p a b - PP p a b) * F (j * 24 + b)) 24 + clQ p F j a := by
    unfold clQ
    rw [← sg_mul, ← sg_add]
    exact sg_congr fun b _ => by grind
  have s2 := sg_bd2 (by decide) (fun b hb => (C.at_p ha hb).1) hf
  have r2 := rsh_two (sg (fun b => atV p a b * F (j * 24 + b)) 24)
  obtain ⟨X, hX⟩ : ∃ X, sg (fun b => atV p a b * F (j * 24 + b)) 24 = X := ⟨_, rfl⟩
  rw [hX] at e2 r2 ⊢
  have c := ab_bd (sg (fun b => (1152921504606846976 * atV p a b - PP p a b) * F (j * 24 + b)) 24)
  have d := ab_bd (1073741824 * rsh X 30 - X)
  exact le_ab (by omega)
theorem ClH.sum_err {i j : Nat} (hi : i < 24) (hj : j < 24) : ab (1329227995784915872903807060280344576 * dotV 30 (rowF 24 F i) (clX p F j) 24 - sg (fun a => F (i * 24 + a) * clQ p F j a) 24) ≤ 40000000000000000000000000000000000000 ∧ dotH 30 (rowF 24 F i) (clX p F j) 24 = false ∧ ab (dotV 30 (rowF 24 F i) (clX p F j) 24) ≤ 500000000000000 := by
  have hf := C.f_sum hi
  have s1 := sg_bd2 (by decide) (fun a ha => (C.x_err hj ha).2.2) hf
  have r1 := rsh_ab (m := 500000000000000) (Int.le_trans s1 (by decide))
  have e0 : sg (fun a => F (i * 24 + a) * clX p F j a) 24 = sg (fun a => clX p F j a * F (i * 24 + a)) 24 := sg_congr fun a _ => Int.mul_comm _ _
  rw [← e0] at r1
  have dv := dotV_sg (A := rowF 24 F i) (B := clX p F j) (n := 24) (fun a ha => ⟨by
    have := C.fsb hi ha
    unfold rowF
    split at this <;> exact sb_ab this (by decide), sb_ab (C.x_err hj ha).2.2 (by decide)⟩) (sb_ab r1 (by decide))
  have e1 : dotV 30 (rowF 24 F i) (clX p F j) 24 = rsh (sg (fun a => F (i * 24 + a) * clX p F j a) 24) 30 := dv.1
  rw [e1]
  refine ⟨?_, dv.2, r1⟩
  have e2 : 1237940039285380274899124224 * sg (fun a => F (i * 24 + a) * clX p F j a) 24 = sg (fun a => (1237940039285380274899124224 * clX p F j a - clQ p F j a) * F (i * 24 + a)) 24 + sg (fun a => F (i * 24 + a) * clQ p F j a) 24 := by
    rw [← sg_mul, ← sg_add]
    exact sg_congr fun a _ => by grind
  have s2 := sg_bd2 (by decide) (fun a ha => (C.x_err hj ha).1) hf
  have r2 := rsh_two (sg (fun a => F (i * 24 + a) * clX p F j a) 24)
  obtain ⟨X, hX⟩ : ∃ X, sg (fun a => F (i * 24 + a) * clX p F j a) 24 = X := ⟨_, rfl⟩
  rw [hX] at e2 r2 ⊢
  have c := ab_bd (sg (fun a => (1237940039285380274899124224 * clX p F j a - clQ p F j a) * F (i * 24 + a)) 24)
  have d := ab_bd (1073741824 * rsh X 30 - X)
  exact le_ab (by omega)
/-- The law's difference. -/
theorem ClH.close {i j : Nat} (hi : i < 24) (hj : j < 24) : atH (stepF p F q) i j = false ∧ ab (atV (stepF p F q) i j) ≤ 60000000000000 ∧
    ab (atV (stepF p F q) i j - (dotV 30 (rowF 24 F i) (clX p F j) 24 + (if i = j then q i else 0))) ≤ 4294967296 := by
  have R := C.run
  have O : RunO (stepW p F) (stepE p q) (stepF p F q) := run_o _ _
  have nrm : ∀ l, l < 24 → Nrm (WN (stepW p F) (stepE p q) (23 - l)) (stepE p q) l := fun l hl => ⟨24 + l, by omega, ((R.all (23 - l) (by omega)).1 l hl).1, C.wt_big (by omega)⟩
  have a : ab (1152921504606846976 * atV (stepF p F q) i j - gr (rowF 48 (stepW p F) i) (rowF 48 (stepW p F) j) (stepE p q)) ≤ 25 * 116056878683004400771792896 ∧ atH (stepF p F q) i j = false := by
    by_cases h : i ≤ j
    · have r := run_at R O h hj (nrm j hj)
      exact ⟨r.1, r.2.1⟩
    · have r := run_at R O (show j ≤ i by omega) hi (nrm i hi)
      rw [gr_comm]
      exact ⟨r.2.2.1, r.2.2.2⟩
  have g := C.gr_eq hi hj
  have s := C.sum_err hi hj
  have g1 := C.g_own hi
  have g2 := C.g_own hj
  have g3 := gr_two (rowF 48 (stepW p F) i) (rowF 48 (stepW p F) j) (stepE p q) (fun k hk => (C.wt k hk).1) 1
  have q3 := ab_bd (2 * 1 * gr (rowF 48 (stepW p F) i) (rowF 48 (stepW p F) j) (stepE p q))
  have eq : sg (fun a => F (i * 24 + a) * sg (fun b => F (j * 24 + b) * PP p a b) 24) 24 = sg (fun a => F (i * 24 + a) * clQ p F j a) 24 := rfl
  rw [eq] at g
  refine ⟨a.2, ?_, ?_⟩
  · have c := ab_bd (1152921504606846976 * atV (stepF p F q) i j - gr (rowF 48 (stepW p F) i) (rowF 48 (stepW p F) j) (stepE p q))
    exact le_ab (by omega)
  · obtain ⟨A, hA⟩ : ∃ A, atV (stepF p F q) i j = A := ⟨_, rfl⟩
    obtain ⟨G, hG⟩ : ∃ A, gr (rowF 48 (stepW p F) i) (rowF 48 (stepW p F) j) (stepE p q) = A := ⟨_, rfl⟩
    obtain ⟨S, hS⟩ : ∃ A, dotV 30 (rowF 24 F i) (clX p F j) 24 = A := ⟨_, rfl⟩
    obtain ⟨T, hT⟩ : ∃ A, sg (fun a => F (i * 24 + a) * clQ p F j a) 24 = A := ⟨_, rfl⟩
    rw [hA, hG] at a
    rw [hG, hT] at g
    rw [hS, hT] at s
    rw [hA, hS]
    have c1 := ab_bd (1152921504606846976 * A - G)
    have c3 := ab_bd (1329227995784915872903807060280344576 * S - T)
    by_cases h : i = j
    · rw [if_pos h] at g ⊢
      have c2 := ab_bd (1152921504606846976 * (G - 1152921504606846976 * q i) - T)
      exact le_ab (by omega)
    · rw [if_neg h] at g ⊢
      have c2 := ab_bd (1152921504606846976 * (G - 0) - T)
      exact le_ab (by omega)
end
end Go.Proofs.Ytipkdkeacdmnaaa
/- A step by One (but for a state that is forgotten), with noise: what At tells behind it (plain law of ThorntonKeeps, BlockGrows, BlockOthers). No program beyond the numbers' names. -/
namespace Go.Proofs.Ytipkdkeacdmnaaa
/-- kx is the state that is forgotten; 24: none. -/
structure TkH (p F q : Nat → Int) (kx : Nat) : Prop where
  u : ∀ x, x < 276 → ab (p x) ≤ 268435455
  d : ∀ i, i < 24 → 17179869184 ≤ p (276 + i) ∧ p (276 + i) ≤ 8813272891391
  f : ∀ i m, i < 24 → m < 24 → F (i * 24 + m) = if i = m ∧ i ≠ kx then 1073741824 else 0
  n : ∀ i, i < 24 → 0 ≤ q i ∧ q i ≤ 22000000000000 ∧ (i ≠ kx → q i ≤ 17592186044416)
  qk : kx < 24 → 1 ≤ q kx
/-- The factors alone, as the other law asks them (with any noise). -/
theorem TkH.cl {p F q : Nat → Int} {kx : Nat} (T : TkH p F q kx) : ClH p oneF (fun _ => 17179869184) where
  u := T.u
  d := T.d
  f := fun i m hi hm => by
    rw [oneF_at hm]
    split <;> simp [ab]
  q := fun i _ => by omega
section
variable {p F q : Nat → Int} {kx : Nat} (T : TkH p F q kx)
include T
theorem TkH.fs {x : Nat} (hx : x < 576) : satV (F x) = F x ∧ satH (F x) = false := by
  have := T.f (x / 24) (x % 24) (by omega) (by omega)
  rw [show x / 24 * 24 + x % 24 = x by omega] at this
  have s : SB (F x) := by rw [this]; unfold SB; split <;> omega
  exact ⟨satV_sb s, satH_sb s⟩
theorem TkH.w_left {i k : Nat} (hi : i < 24) (hk : k < 24) : stepW p F (i * 48 + k) = (if i = kx then 0 else uV p i k) ∧ rwB (condF p) (fS F 24 0) i k = false := by
  have C := T.cl
  have e1 : (i * 48 + k) / 48 = i := by omega
  have e2 : (i * 48 + k) % 48 = k := by omega
  have eF : ∀ m, m < 24 → rowF 24 (fS F 24 0) i m = F (i * 24 + m) := fun m hm => by
    have : (i * 24 + m) / 24 = i := by omega
    unfold rowF fS
    rw [this, if_pos (.inl hi)]; exact (T.fs (by omega)).1
  have eU : ∀ m, m < 24 → colF (condF p) k m = uV p m k := fun m hm => by
    unfold colF
    split
    · next h =>
      by_cases h2 : m = k
      · subst h2; rw [uV_self, uV_self]
      · rw [uV_up (by omega), uV_up (by omega), C.cond.1 _ (by have := pl_lt (i := m) (j := k) (by omega) hk; omega)]
    · rw [uV_low (by omega)]
  have hs : sg (fun m => rowF 24 (fS F 24 0) i m * colF (condF p) k m) 24 = 1073741824 * (if i = kx then 0 else uV p i k) := by
    by_cases h : i = kx
    · rw [if_pos h, sg_zero fun m hm => by rw [eF m hm, T.f i m hi hm, if_neg (by omega), Int.zero_mul]]; rfl
    · rw [if_neg h, sg_only hi fun m hm hne => by rw [eF m hm, T.f i m hi hm, if_neg (by omega), Int.zero_mul], eF i hi, eU i hi, T.f i i hi hi, if_pos ⟨rfl, h⟩]
  have b : ab (if i = kx then 0 else uV p i k) ≤ 1073741824 := by
    split
    · decide
    · exact C.uv1 hk
  have dv := dotV_sg (A := rowF 24 (fS F 24 0) i) (B := colF (condF p) k) (n := 24) (fun m hm => by
    rw [eF m hm, eU m hm, T.f i m hi hm]
    refine ⟨?_, sb_ab (C.uv1 (a := m) hk) (by decide)⟩
    unfold SB; split <;> omega) (by rw [hs, cl_rshmul]; exact sb_ab b (by decide))
  rw [hs, cl_rshmul] at dv
  unfold stepW rowsW rwB
  rw [e1, e2, if_pos hk]
  exact dv
theorem TkH.e_left {k : Nat} (hk : k < 24) : stepE p q k = p (276 + k) := by
  unfold stepE eS
  rw [if_pos hk, T.cl.cond.1 _ (by omega)]
theorem TkH.e_right {k : Nat} (hk : k < 24) : stepE p q (24 + k) = q k := by
  have := T.n k hk
  unfold stepE eS
  rw [if_neg (by omega), if_pos (by omega), show 24 + k - 24 = k by omega]
  exact (qV_id (by omega) (by omega)).1
theorem TkH.wt : WtB (stepE p q) := fun k hk => by
  by_cases h : k < 24
  · rw [T.e_left h]; have := T.d k h; omega
  · obtain ⟨m, rfl⟩ : ∃ m, k = 24 + m := ⟨k - 24, by omega⟩
    rw [T.e_right (by omega)]; have := T.n m (by omega); omega
/-- The rows' products: exactly the covariance, and the noise. -/
theorem TkH.gr_eq {i l : Nat} (hi : i < 24) (hl : l < 24) (xi : i ≠ kx) (xl : l ≠ kx) : gr (rowF 48 (stepW p F) i) (rowF 48 (stepW p F) l) (stepE p q) = PP p i l + (if i = l then 1152921504606846976 * q i else 0) := by
  unfold gr
  have e48 : sg (fun k => rowF 48 (stepW p F) i k * rowF 48 (stepW p F) l k * stepE p q k) 48 = sg (fun k => rowF 48 (stepW p F) i k * rowF 48 (stepW p F) l k * stepE p q k) 24 + sg (fun m => rowF 48 (stepW p F) i (24 + m) * rowF 48 (stepW p F) l (24 + m) * stepE p q (24 + m)) 24 := sg_app (fun k => rowF 48 (stepW p F) i k * rowF 48 (stepW p F) l k * stepE p q k) 24 24
  have A1 : sg (fun k => rowF 48 (stepW p F) i k * rowF 48 (stepW p F) l k * stepE p q k) 24 = PP p i l := sg_congr fun k hk => by
    show stepW p F (i * 48 + k) * stepW p F (l * 48 + k) * _ = _
    rw [(T.w_left hi hk).1, (T.w_left hl hk).1, T.e_left hk, if_neg xi, if_neg xl]
  have A2 : sg (fun m => rowF 48 (stepW p F) i (24 + m) * rowF 48 (stepW p F) l (24 + m) * stepE p q (24 + m)) 24 = if i = l then 1152921504606846976 * q i else 0 := by
    by_cases h : i = l
    · rw [if_pos h, sg_only hi fun m hm hne => by show stepW p F (i * 48 + (24 + m)) * _ * _ = _; rw [cl_right hi hm, if_neg hne, Int.zero_mul, Int.zero_mul]]
      show stepW p F (i * 48 + (24 + i)) * stepW p F (l * 48 + (24 + i)) * _ = _
      rw [cl_right hi hi, cl_right hl hi, if_pos rfl, if_pos h, T.e_right hi]
      rfl
    · rw [if_neg h]
      refine sg_zero fun m hm => ?_
      show stepW p F (i * 48 + (24 + m)) * stepW p F (l * 48 + (24 + m)) * _ = _
      rw [cl_right hi hm, cl_right hl hm]
      by_cases h2 : m = i
      · rw [if_neg (show ¬ m = l by omega), Int.mul_zero, Int.zero_mul]
      · rw [if_neg h2, Int.zero_mul, Int.zero_mul]
  rw [e48, A1, A2]
theorem TkH.pp_own {i : Nat} (hi : i < 24) : PP p i i ≤ 25000000000000000000000000000000 := by
  have C := T.cl
  have h := sg_le (f := fun k => uV p i k * uV p i k * p (276 + k)) (g := fun k => 635064000000000000000000000000 + (if k = i then 9600000000000000000000000000000 else 0)) (n := 24) fun k hk => by
    have b := C.uv (a := i) hk
    have d := T.d k hk
    have sq : uV p i k * uV p i k = ab (uV p i k) * ab (uV p i k) := by
      rcases (show ab (uV p i k) = uV p i k ∨ ab (uV p i k) = -(uV p i k) by unfold ab; omega) with h | h <;> rw [h]
      exact (Int.neg_mul_neg _ _).symm
    rw [sq]
    by_cases h2 : i = k
    · rw [if_pos h2] at b
      rw [if_pos h2.symm]
      have m1 := Int.mul_le_mul b b (ab_bd _).1 (by decide)
      have m2 := Int.mul_le_mul m1 d.2 (by omega) (by decide)
      omega
    · rw [if_neg h2] at b
      rw [if_neg (Ne.symm h2)]
      have m1 := Int.mul_le_mul b b (ab_bd _).1 (by decide)
      have m2 := Int.mul_le_mul m1 d.2 (by omega) (by decide)
      omega
  rw [sg_add, sg_const, sg_only hi fun k _ h => if_neg h, if_pos rfl] at h
  unfold PP
  omega
theorem TkH.tri : TriH (stepW p F) (stepE p q) kx where
  wt := T.wt
  low := fun i m h1 h2 => by
    rw [(T.w_left h2 (by omega)).1]
    split
    · rfl
    · exact uV_low h1
  one := fun i hi hx => by rw [(T.w_left hi hi).1, if_neg hx, uV_self]
  up := fun i m h1 h2 hx => by
    have := T.cl.uv (a := i) h2
    rw [if_neg (by omega)] at this
    rw [(T.w_left (by omega) h2).1, if_neg hx]; omega
  zk := fun h m hm => by rw [(T.w_left h hm).1, if_pos rfl]
  right := fun i m hi hm => cl_right hi hm
  big := fun k hk => by rw [T.e_left hk]; exact (T.d k hk).1
  ek := fun h => by rw [T.e_right h]; exact T.qk h
  g := fun i hi => by
    by_cases hx : i = kx
    · have e : gr (rowF 48 (stepW p F) i) (rowF 48 (stepW p F) i) (stepE p q) = 1152921504606846976 * q i := by
        unfold gr
        rw [sg_only (a := 24 + i) (by omega) fun k hk hne => ?_]
        · show stepW p F (i * 48 + (24 + i)) * stepW p F (i * 48 + (24 + i)) * _ = _
          rw [cl_right hi hi, if_pos rfl, T.e_right hi]; rfl
        · show stepW p F (i * 48 + k) * _ * _ = 0
          by_cases h : k < 24
          · rw [(T.w_left hi h).1, if_pos hx, Int.zero_mul, Int.zero_mul]
          · obtain ⟨m, rfl⟩ : ∃ m, k = 24 + m := ⟨k - 24, by omega⟩
            rw [cl_right hi (by omega), if_neg (by omega), Int.zero_mul, Int.zero_mul]
      rw [e]
      have := T.n i hi
      omega
    · rw [T.gr_eq hi hi hx hx, if_pos rfl]
      have a := T.pp_own hi
      have b := (T.n i hi).2.2 hx
      omega
theorem TkH.flag : stepH p F q = false := by
  unfold stepH
  have h1 : loop1H q F 24 = false := by
    unfold loop1H row1H
    refine cl_orB fun i hi => ?_
    have := T.n i hi
    rw [(qV_id (a := q i) (by omega) (by omega)).2, cl_orB fun k hk => (T.fs (by omega)).2]; rfl
  have h2 : rowsH (condF p) (fS F 24 0) = false := by
    unfold rowsH rwH
    exact cl_orB fun k hk => cl_orB fun i hi => (T.w_left hi hk).2
  rw [T.cl.cond.2, h1, h2, (T.tri.run.all 24 (Nat.le_refl _)).2.flag]; rfl
/-- What At tells behind the step: what it told, and the noise, within a little. -/
theorem TkH.close {i l : Nat} (hi : i < 24) (hl : l < 24) (xi : i ≠ kx) (xl : l ≠ kx) : atH (stepF p F q) i l = false ∧ atH p i l = false ∧ ab (atV p i l) ≤ 212000000000000 ∧
    ab (atV (stepF p F q) i l - atV p i l - (if i = l then q i else 0)) ≤ 4294967296 := by
  have O : RunO (stepW p F) (stepE p q) (stepF p F q) := run_o _ _
  have a : ab (1152921504606846976 * atV (stepF p F q) i l - gr (rowF 48 (stepW p F) i) (rowF 48 (stepW p F) l) (stepE p q)) ≤ 25 * 116056878683004400771792896 ∧ atH (stepF p F q) i l = false := by
    by_cases h : i ≤ l
    · have r := run_at T.tri.run O h hl (T.tri.nrm hl xl)
      exact ⟨r.1, r.2.1⟩
    · have r := run_at T.tri.run O (show l ≤ i by omega) hi (T.tri.nrm hi xi)
      rw [gr_comm]
      exact ⟨r.2.2.1, r.2.2.2⟩
  have b := T.cl.at_p hi hl
  rw [T.gr_eq hi hl xi xl] at a
  refine ⟨a.2, b.2.1, b.2.2, ?_⟩
  obtain ⟨A, hA⟩ : ∃ A, atV (stepF p F q) i l = A := ⟨_, rfl⟩
  obtain ⟨B, hB⟩ : ∃ A, atV p i l = A := ⟨_, rfl⟩
  obtain ⟨G, hG⟩ : ∃ A, PP p i l = A := ⟨_, rfl⟩
  rw [hA, hG] at a
  rw [hB, hG] at b
  rw [hA, hB]
  have c2 := ab_bd (1152921504606846976 * B - G)
  by_cases h : i = l
  · rw [if_pos h] at a ⊢
    have c1 := ab_bd (1152921504606846976 * A - (G + 1152921504606846976 * q i))
    exact le_ab (by omega)
  · rw [if_neg h] at a ⊢
    have c1 := ab_bd (1152921504606846976 * A - (G + 0))
    exact le_ab (by omega)
end
end Go.Proofs.Ytipkdkeacdmnaaa
