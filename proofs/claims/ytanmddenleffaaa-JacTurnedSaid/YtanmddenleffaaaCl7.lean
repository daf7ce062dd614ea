/- The covariance that is carried on is F P F' + Q, within a little (plain law of ThorntonClose). No program beyond the numbers' names. -/
import Derived.Test.YtanmddenleffaaaCl6
import Derived.Test.YtanmddenleffaaaMove
namespace Go.Proofs.Ytanmddenleffaaa
theorem ab_mul_le {x y X Y : Int} (hx : ab x ≤ X) (hy : ab y ≤ Y) : ab (x * y) ≤ X * Y := by
  rw [ab_mul]
  have := (ab_bd x).1
  have := (ab_bd y).1
  exact Int.mul_le_mul hx hy (by omega) (by omega)
/-- A row's number, by its square and the weight. -/
theorem ent_of_gr {a e : Nat → Int} (he : WtB e) (hg : gr a a e ≤ 50706024009129176059868128215040) {k : Nat} (hk : k < 48) (hw : 17179869184 ≤ e k) : ab (a k) ≤ 54760833024 := by
  have h1 : a k * a k * e k ≤ gr a a e := sg_one (f := fun k => a k * a k * e k) hk fun k hk => Int.mul_nonneg (sq_nn _) (he k hk).1
  refine Decidable.byContradiction fun hc => ?_
  have h2 : ab (a k) * ab (a k) = a k * a k := by
    rcases (show ab (a k) = a k ∨ ab (a k) = -(a k) by unfold ab; omega) with h | h <;> rw [h]
    exact Int.neg_mul_neg _ _
  have h3 : (54760833024 : Int) * 54760833024 ≤ ab (a k) * ab (a k) := Int.mul_le_mul (by omega) (by omega) (by decide) (ab_bd _).1
  rw [h2] at h3
  have h4 : (54760833024 : Int) * 54760833024 * 17179869184 ≤ a k * a k * e k := Int.mul_le_mul h3 hw (by decide) (sq_nn _)
  omega
/-- The factors, the matrix, the noise. -/
structure ClH (p F q : Nat → Int) : Prop where
  u : ∀ x, x < 276 → ab (p x) ≤ 268435455
  d : ∀ i, i < 24 → 17179869184 ≤ p (276 + i) ∧ p (276 + i) ≤ 8813272891391
  f : ∀ i m, i < 24 → m < 24 → ab (F (i * 24 + m) - (if i = m then 1073741824 else 0)) ≤ 16777215
  q : ∀ i, i < 24 → 17179869184 ≤ q i ∧ q i ≤ 566935683071
section
variable {p F q : Nat → Int} (C : ClH p F q)
include C
theorem ClH.uv {a k : Nat} (hk : k < 24) : ab (uV p a k) ≤ if a = k then 1073741824 else 268435455 := by
  by_cases h : a = k
  · subst h; rw [uV_self, if_pos rfl]; decide
  · rw [if_neg h]
    by_cases h2 : a < k
    · rw [uV_up h2]; exact C.u _ (pl_lt h2 hk)
    · rw [uV_low (by omega)]; decide
theorem ClH.uv1 {a k : Nat} (hk : k < 24) : ab (uV p a k) ≤ 1073741824 := by
  have := C.uv (a := a) hk
  split at this <;> omega
theorem ClH.cond : (∀ x, x < 300 → condF p x = p x) ∧ condH p = false := by
  constructor
  · intro x hx
    unfold condF
    split
    · next h => exact satV_sb (sb_ab (C.u x h) (by decide))
    · next h =>
      have := C.d (x - 276) (by omega)
      rw [show 276 + (x - 276) = x by omega] at this
      exact (cl_varV (by omega) (by omega)).1
  · unfold condH
    rw [cl_orB, cl_orB]; rfl
    · intro i hi; exact satH_sb (sb_ab (C.u i hi) (by decide))
    · intro i hi; have := C.d i hi; exact (cl_varV (by omega) (by omega)).2
theorem ClH.fsb {i m : Nat} (hi : i < 24) (hm : m < 24) : ab (F (i * 24 + m)) ≤ (if i = m then 1073741824 else 0) + 16777215 := by
  have := C.f i m hi hm
  by_cases h : i = m
  · rw [if_pos h] at this ⊢
    have a := ab_bd (F (i * 24 + m) - 1073741824)
    exact le_ab (by omega)
  · rw [if_neg h] at this ⊢
    have a := ab_bd (F (i * 24 + m) - 0)
    exact le_ab (by omega)
theorem ClH.fs {x : Nat} (hx : x < 576) : satV (F x) = F x ∧ satH (F x) = false := by
  have := C.fsb (i := x / 24) (m := x % 24) (by omega) (by omega)
  rw [show x / 24 * 24 + x % 24 = x by omega] at this
  have s : SB (F x) := by split at this <;> exact sb_ab this (by decide)
  exact ⟨satV_sb s, satH_sb s⟩
/-- The exact product of the matrix and U. -/
def clC (p F : Nat → Int) (i k : Nat) : Int := sg (fun m => F (i * 24 + m) * uV p m k) 24
theorem ClH.c_near {i k : Nat} (hi : i < 24) (hk : k < 24) : ab (clC p F i k - 1073741824 * uV p i k) ≤ 16777215 * 7247757289 := by
  have e1 : clC p F i k - 1073741824 * uV p i k = sg (fun m => (F (i * 24 + m) - (if i = m then 1073741824 else 0)) * uV p m k) 24 := by
    have : sg (fun m => (if i = m then 1073741824 else 0) * uV p m k) 24 = 1073741824 * uV p i k := by
      rw [sg_only hi fun m _ hm => by rw [if_neg (by omega), Int.zero_mul], if_pos rfl]
    have h2 : clC p F i k = sg (fun m => (F (i * 24 + m) - (if i = m then 1073741824 else 0)) * uV p m k) 24 + sg (fun m => (if i = m then 1073741824 else 0) * uV p m k) 24 := by
      unfold clC
      rw [← sg_add]
      exact sg_congr fun m _ => by grind
    omega
  rw [e1]
  refine Int.le_trans (sg_bd fun m hm => C.f i m hi hm) (Int.mul_le_mul_of_nonneg_left ?_ (by decide))
  have h := sg_le (f := fun m => ab (uV p m k)) (g := fun m => 268435455 + (if m = k then 805306369 else 0)) (n := 24) fun m _ => by
    have := C.uv (a := m) hk
    split at this <;> split <;> omega
  rw [sg_add, sg_const, sg_only hk fun m _ hm => if_neg hm, if_pos rfl] at h
  omega
theorem ClH.c_bd {i k : Nat} (hi : i < 24) (hk : k < 24) : ab (clC p F i k) ≤ 1073741824 * (if i = k then 1186988034 else 381681666) := by
  have a := C.c_near hi hk
  have b := C.uv (a := i) hk
  have c := ab_bd (clC p F i k - 1073741824 * uV p i k)
  have d := ab_bd (uV p i k)
  split at b <;> exact le_ab (by omega)
theorem ClH.w_left {i k : Nat} (hi : i < 24) (hk : k < 24) : stepW p F (i * 48 + k) = rsh (clC p F i k) 30 ∧ rwB (condF p) (fS F 24 0) i k = false := by
  have e1 : (i * 48 + k) / 48 = i := by omega
  have e2 : (i * 48 + k) % 48 = k := by omega
  have eF : ∀ m, m < 24 → rowF 24 (fS F 24 0) i m = F (i * 24 + m) := fun m hm => by
    have : (i * 24 + m) / 24 = i := by omega
    unfold rowF fS
    rw [this, if_pos (.inl hi)]; exact (C.fs (by omega)).1
  have eU : ∀ m, m < 24 → colF (condF p) k m = uV p m k := fun m hm => by
    unfold colF
    split
    · next h =>
      by_cases h2 : m = k
      · subst h2; rw [uV_self, uV_self]
      · rw [uV_up (by omega), uV_up (by omega), C.cond.1 _ (by have := pl_lt (i := m) (j := k) (by omega) hk; omega)]
    · rw [uV_low (by omega)]
  have hs : sg (fun m => rowF 24 (fS F 24 0) i m * colF (condF p) k m) 24 = clC p F i k := sg_congr fun m hm => by rw [eF m hm, eU m hm]
  have c := C.c_bd hi hk
  have r : ab (rsh (clC p F i k) 30) ≤ 1186988034 := rsh_ab (Int.le_trans c (by split <;> decide))
  have dv := dotV_sg (A := rowF 24 (fS F 24 0) i) (B := colF (condF p) k) (n := 24) (fun m hm => by
    rw [eF m hm, eU m hm]
    have a := C.fsb hi hm
    have b := C.uv1 (a := m) hk
    refine ⟨?_, sb_ab b (by decide)⟩
    split at a <;> exact sb_ab a (by decide)) (by rw [hs]; exact sb_ab r (by decide))
  rw [hs] at dv
  unfold stepW rowsW rwB
  rw [e1, e2, if_pos hk]
  exact dv
omit C in
theorem cl_right {i m : Nat} (hi : i < 24) (hm : m < 24) : stepW p F (i * 48 + (24 + m)) = if m = i then 1073741824 else 0 := by
  have e1 : (i * 48 + (24 + m)) / 48 = i := by omega
  have e2 : (i * 48 + (24 + m)) % 48 = 24 + m := by omega
  unfold stepW rowsW
  rw [e1, e2, if_neg (by omega)]
  by_cases h : m = i
  · rw [if_pos (by omega), if_pos h]
  · rw [if_neg (by omega), if_neg h]
theorem ClH.e_left {k : Nat} (hk : k < 24) : stepE p q k = p (276 + k) := by
  unfold stepE eS
  rw [if_pos hk, C.cond.1 _ (by omega)]
theorem ClH.e_right {k : Nat} (hk : k < 24) : stepE p q (24 + k) = q k := by
  have := C.q k hk
  unfold stepE eS
  rw [if_neg (by omega), if_pos (by omega), show 24 + k - 24 = k by omega]
  exact (qV_id (by omega) (by omega)).1
theorem ClH.wt : WtB (stepE p q) := fun k hk => by
  by_cases h : k < 24
  · rw [C.e_left h]; have := C.d k h; omega
  · obtain ⟨m, rfl⟩ : ∃ m, k = 24 + m := ⟨k - 24, by omega⟩
    rw [C.e_right (by omega)]; have := C.q m (by omega); omega
theorem ClH.wt_big {k : Nat} (hk : k < 48) : 17179869184 ≤ stepE p q k := by
  by_cases h : k < 24
  · rw [C.e_left h]; exact (C.d k h).1
  · obtain ⟨m, rfl⟩ : ∃ m, k = 24 + m := ⟨k - 24, by omega⟩
    rw [C.e_right (by omega)]; exact (C.q m (by omega)).1
theorem ClH.g_own {i : Nat} (hi : i < 24) : gr (rowF 48 (stepW p F) i) (rowF 48 (stepW p F) i) (stepE p q) ≤ 50700000000000000000000000000000 := by
  have key : ∀ k, k < 48 → rowF 48 (stepW p F) i k * rowF 48 (stepW p F) i k * stepE p q k ≤ (if k = i then 12420000000000000000000000000000 else 0) + ((if k = 24 + i then 660000000000000000000000000000 else 0) + (if k < 24 then 1290000000000000000000000000000 else 0)) := by
    intro k hk
    unfold rowF
    have sq : ∀ x : Int, x * x = ab x * ab x := fun x => by
      rcases (show ab x = x ∨ ab x = -x by unfold ab; omega) with h | h <;> rw [h]
      exact (Int.neg_mul_neg _ _).symm
    have e0 := (C.wt k hk).1
    by_cases h : k < 24
    · have c := C.c_bd hi h
      have b := rsh_ab c
      rw [← (C.w_left hi h).1] at b
      have d := C.d k h
      rw [C.e_left h, sq]
      rw [if_neg (show ¬ k = 24 + i by omega), if_pos h]
      by_cases h2 : k = i
      · rw [if_pos h2]
        rw [if_pos h2.symm] at b
        have m1 := Int.mul_le_mul b b (ab_bd _).1 (by decide)
        have m2 := Int.mul_le_mul m1 d.2 (by omega) (by decide)
        omega
      · rw [if_neg h2]
        rw [if_neg (Ne.symm h2)] at b
        have m1 := Int.mul_le_mul b b (ab_bd _).1 (by decide)
        have m2 := Int.mul_le_mul m1 d.2 (by omega) (by decide)
        omega
    · obtain ⟨m, rfl⟩ : ∃ m, k = 24 + m := ⟨k - 24, by omega⟩
      have d := C.q m (by omega)
      rw [cl_right hi (by omega), C.e_right (by omega), if_neg (show ¬ 24 + m = i by omega), if_neg h]
      by_cases h2 : m = i
      · rw [if_pos h2, if_pos (by omega)]; omega
      · rw [if_neg h2, if_neg (by omega)]; omega
  have s := sg_le key
  rw [sg_add, sg_add, sg_only (show i < 48 by omega) (fun k _ h => if_neg h), sg_only (show 24 + i < 48 by omega) (fun k _ h => if_neg h), if_pos rfl, if_pos rfl] at s
  have e3 : sg (fun k => if k < 24 then (1290000000000000000000000000000 : Int) else 0) 48 = 24 * 1290000000000000000000000000000 := by decide
  rw [e3] at s
  exact Int.le_trans s (by decide)
/-- The noise's numbers in the rows: One in its own, nothing behind. -/
def RgtP (W e : Nat → Int) (n : Nat) : Prop := ∀ m, m < 24 → WN W e n (m * 48 + (24 + m)) = 1073741824 ∧ ∀ i, m < i → i < 24 → WN W e n (i * 48 + (24 + m)) = 0
omit C in
theorem rgt_step {W e : Nat → Int} {n : Nat} (hn : n < 24) (p : RgtP W e n) (S : StO (WN W e n) e (23 - n)) : RgtP W e (n + 1) := by
  intro m hm
  have key : ∀ i, m ≤ i → i < 24 → WN W e (n + 1) (i * 48 + (24 + m)) = WN W e n (i * 48 + (24 + m)) := by
    intro i hmi hi
    show elW (WN W e n) e (23 - n) (23 - n) 0 (i * 48 + (24 + m)) = _
    by_cases h : i < 23 - n
    · rw [S.w i h _ (by omega), (p m hm).2 (23 - n) (by omega) (by omega), Int.mul_zero, show rsh 0 30 = 0 by decide, Int.sub_zero]
    · exact row_ge (by omega) (by omega)
  exact ⟨by rw [key m (Nat.le_refl _) hm]; exact (p m hm).1, fun i h1 h2 => by rw [key i (by omega) h2]; exact (p m hm).2 i h1 h2⟩
theorem ClH.run : RunH (stepW p F) (stepE p q) (RgtP (stepW p F) (stepE p q)) where
  he := C.wt
  p0 := fun m hm => ⟨by show stepW p F _ = _; rw [cl_right hm hm, if_pos rfl], fun i h1 h2 => by show stepW p F _ = _; rw [cl_right h2 hm, if_neg (by omega)]⟩
  g := fun i hi => C.g_own hi
  hN := fun n hn _ hg i hi => by
    have h := sg_le (f := fun k => ab (WN (stepW p F) (stepE p q) n (i * 48 + k))) (g := fun _ => 54760833024) (n := 48) fun k hk => ent_of_gr (a := rowF 48 (WN (stepW p F) (stepE p q) n) i) C.wt (hg i hi) hk (C.wt_big hk)
    rw [sg_const] at h
    omega
  hS := fun n hn p => .inl ⟨24 + (23 - n), by omega, (p (23 - n) (by omega)).1, C.wt_big (by omega)⟩
  hP := fun n hn p _ S => rgt_step hn p S
theorem ClH.flag : stepH p F q = false := by
  unfold stepH
  have h1 : loop1H q F 24 = false := by
    unfold loop1H row1H
    refine cl_orB fun i hi => ?_
    have := C.q i hi
    rw [(qV_id (a := q i) (by omega) (by omega)).2, cl_orB fun k hk => (C.fs (by omega)).2]; rfl
  have h2 : rowsH (condF p) (fS F 24 0) = false := by
    unfold rowsH rwH
    exact cl_orB fun k hk => cl_orB fun i hi => (C.w_left hi hk).2
  rw [C.cond.2, h1, h2, (C.run.all 24 (Nat.le_refl _)).2.flag]; rfl
end
end Go.Proofs.Ytanmddenleffaaa
