/- Contracts of the program's functions and plain laws, part 10: they hold for all arguments. -/
import Derived.Test.YtkllgphhfkoknaaQ09
import Derived.Test.YtkllgphhfkoknaaQ05
/- What a run puts out, and what At tells of it. No program beyond the numbers' names. -/
namespace Go.Proofs.Ytkllgphhfkoknaa
/-- At's rounded sum, told by the exact one. -/
theorem at_err {u x d : Nat → Int} {n : Nat} {B T : Int} (hu : ∀ q, q < n → ab (u q) ≤ B) (hx : ∀ q, q < n → SB (u q) ∧ SB (x q) ∧ SB (d q) ∧ SB (rsh (x q * d q) 30)) (hB : (n : Int) * B ≤ T) (hs : ab (sg (fun q => u q * x q * d q) n) ≤ 1152921504606846976 * 1000000000000000 - 1073741824 * T) :
    ab (1152921504606846976 * dotV 30 u (fun q => mulV (x q) (d q) 30) n - sg (fun q => u q * x q * d q) n) ≤ 536870912 * T + 576460752303423488 ∧ dotH 30 u (fun q => mulV (x q) (d q) 30) n = false ∧ (∀ q, q < n → mulH (x q) (d q) 30 = false) := by
  have hm : ∀ q, q < n → mulV (x q) (d q) 30 = rsh (x q * d q) 30 ∧ mulH (x q) (d q) 30 = false := fun q hq => mulV_of (hx q hq).2.1 (hx q hq).2.2.1 (hx q hq).2.2.2
  have e1 : 1073741824 * sg (fun q => u q * mulV (x q) (d q) 30) n = sg (fun q => (1073741824 * rsh (x q * d q) 30 - x q * d q) * u q) n + sg (fun q => u q * x q * d q) n := by
    rw [← sg_mul, ← sg_add]
    exact sg_congr fun q hq => by rw [(hm q hq).1]; grind
  have b1 : ∀ q, q < n → ab (1073741824 * rsh (x q * d q) 30 - x q * d q) ≤ 536870912 := fun q _ => by have := rsh_two (x q * d q); omega
  have b2 := sg_bd (y := u) b1
  have b3 := sg_le (f := fun q => ab (u q)) (g := fun _ => B) (n := n) hu
  rw [sg_const] at b3
  have hsb : SB (rsh (sg (fun q => u q * mulV (x q) (d q) 30) n) 30) := by
    have := rsh_err (sg (fun q => u q * mulV (x q) (d q) 30) n)
    have c1 := ab_bd (sg (fun q => (1073741824 * rsh (x q * d q) 30 - x q * d q) * u q) n)
    have c2 := ab_bd (sg (fun q => u q * x q * d q) n)
    have c3 := sg_nonneg (f := fun q => ab (u q)) (n := n) fun q _ => (ab_bd _).1
    unfold SB
    omega
  have dv := dotV_sg (A := u) (B := fun q => mulV (x q) (d q) 30) (n := n) (fun q hq => ⟨(hx q hq).1, by rw [(hm q hq).1]; exact (hx q hq).2.2.2⟩) hsb
  refine ⟨?_, dv.2, fun q hq => (hm q hq).2⟩
  rw [dv.1]
  have := rsh_err (sg (fun q => u q * mulV (x q) (d q) 30) n)
  have c1 := ab_bd (sg (fun q => (1073741824 * rsh (x q * d q) 30 - x q * d q) * u q) n)
  exact le_ab (by omega)
/-- The numbers of a run, and of At. -/
structure RunO (W e f : Nat → Int) : Prop where
  d : ∀ j, j < 24 → f (276 + j) = DD W e (23 - j)
  u : ∀ i l, i < l → l < 24 → f (pl i l) = UU W e i (23 - l)
end Go.Proofs.Ytkllgphhfkoknaa
/- The covariance that factors tell: exactly, by At, by a run. No program beyond the numbers' names. -/
namespace Go.Proofs.Ytkllgphhfkoknaa
/-- A number of the covariance, exactly (in units of 2^-60). -/
def PP (f : Nat → Int) (k m : Nat) : Int := sg (fun p => uV f k p * uV f m p * f (276 + p)) 24
theorem sg_tail {g : Nat → Int} {m : Nat} : ∀ {n : Nat}, m ≤ n → (∀ p, p < m → g p = 0) → sg g n = sg (fun q => g (m + q)) (n - m)
  | n, h, h0 => by
    by_cases e : n = m
    · subst e; rw [Nat.sub_self, sg_zero h0]; rfl
    · obtain ⟨k, rfl⟩ : ∃ k, n = k + 1 := ⟨n - 1, by omega⟩
      have ih := sg_tail (n := k) (by omega) h0
      rw [show k + 1 - m = (k - m) + 1 by omega]
      unfold sg
      rw [ih, show m + (k - m) = k by omega]
theorem uV_low {f : Nat → Int} {a p : Nat} (h : p < a) : uV f a p = 0 := by unfold uV; rw [if_neg (by omega), if_neg (by omega)]
theorem uV_self (f : Nat → Int) (a : Nat) : uV f a a = 1073741824 := by unfold uV; rw [if_pos rfl]
theorem uV_up {f : Nat → Int} {a p : Nat} (h : a < p) : uV f a p = f (pl a p) := by unfold uV; rw [if_neg (by omega), if_pos h]
theorem at_pp {f : Nat → Int} {i j : Nat} {B : Int} (hi : i < 24) (hj : j < 24) (hB : ∀ a p, a < 24 → p < 24 → ab (uV f a p) ≤ B) (hB2 : B ≤ 56908316672) (hd : ∀ p, p < 24 → 0 ≤ f (276 + p) ∧ f (276 + p) ≤ 43980465190000)
    (hs : ab (PP f i j) ≤ 1150000000000000000000000000000000) : ab (1152921504606846976 * atV f i j - PP f i j) ≤ 12884901888 * B + 576460752303423488 ∧ atH f i j = false := by
  have hm : max i j < 24 := by omega
  have b0 : 0 ≤ B := Int.le_trans (ab_bd _).1 (hB 0 0 (by decide) (by decide))
  have e1 : PP f i j = sg (fun q => atU f i (max i j) q * uV f j (max i j + q) * f (276 + (max i j + q))) (24 - max i j) := by
    unfold PP
    rw [sg_tail (m := max i j) (by omega) fun p hp => ?_]
    · rfl
    · by_cases h : p < i
      · rw [uV_low h, Int.zero_mul, Int.zero_mul]
      · rw [uV_low (show p < j by omega), Int.mul_zero, Int.zero_mul]
  have hx : ∀ q, q < 24 - max i j → SB (atU f i (max i j) q) ∧ SB (uV f j (max i j + q)) ∧ SB (f (276 + (max i j + q))) ∧ SB (rsh (uV f j (max i j + q) * f (276 + (max i j + q))) 30) := by
    intro q hq
    have h1 := hB i (max i j + q) hi (by omega)
    have h2 := hB j (max i j + q) hj (by omega)
    have h3 := hd (max i j + q) (by omega)
    refine ⟨sb_ab h1 (by omega), sb_ab h2 (by omega), by unfold SB; omega, sb_ab (rsh_ab (m := 2330964655070000) ?_) (by decide)⟩
    rw [ab_mul]
    exact Int.le_trans (Int.mul_le_mul (Int.le_trans h2 hB2) (show ab (f (276 + (max i j + q))) ≤ 43980465190000 from le_ab (by omega)) (ab_bd _).1 (by decide)) (by decide)
  have h := at_err (T := 24 * B) (fun q hq => hB i (max i j + q) hi (by omega)) hx (Int.mul_le_mul_of_nonneg_right (by omega) b0) (by
    have : sg (fun q => uV f i (max i j + q) * uV f j (max i j + q) * f (276 + (max i j + q))) (24 - max i j) = PP f i j := e1.symm
    rw [this]; omega)
  have e2 : sg (fun q => uV f i (max i j + q) * uV f j (max i j + q) * f (276 + (max i j + q))) (24 - max i j) = PP f i j := e1.symm
  rw [e2] at h
  refine ⟨?_, ?_⟩
  · have : atV f i j = dotV 30 (fun q => uV f i (max i j + q)) (fun q => mulV (uV f j (max i j + q)) (f (276 + (max i j + q))) 30) (24 - max i j) := rfl
    rw [this]
    omega
  · unfold atH
    have : dotH 30 (atU f i (max i j)) (atX f j (max i j)) (24 - max i j) = false := h.2.1
    rw [this, cl_orB (p := atB f j (max i j)) fun q hq => h.2.2 q hq]; rfl
section
variable {W e f : Nat → Int} {P : Nat → Prop} (H : RunH W e P) (O : RunO W e f)
end
end Go.Proofs.Ytkllgphhfkoknaa
/- thornton.Step of variances alone: place by velocity (plain law, 2): the numbers that come out. No program. -/
namespace Go.Proofs.Ytkllgphhfkoknaa
section
variable {f : Nat → Int} (hf : DiagF f) {a b : Nat} (ha : a < 24) (hb : b < 24) (hab : a ≠ b) {t : Int} (ht : SB t)
end
end Go.Proofs.Ytkllgphhfkoknaa
/- The covariance that is carried on is F P F' + Q, within a little (plain law of ThorntonClose). No program beyond the numbers' names. -/
namespace Go.Proofs.Ytkllgphhfkoknaa
theorem sg_swap (g : Nat → Nat → Int) (n : Nat) : ∀ m, sg (fun a => sg (fun k => g a k) n) m = sg (fun k => sg (fun a => g a k) m) n
  | 0 => by
    show (0 : Int) = sg (fun k => (0 : Int)) n
    rw [sg_const]; simp
  | m + 1 => by
    show sg (fun a => sg (fun k => g a k) n) m + sg (fun k => g m k) n = sg (fun k => sg (fun a => g a k) m + g m k) n
    rw [sg_swap g n m, sg_add]
theorem sg_mulr (c : Int) (f : Nat → Int) (n : Nat) : sg (fun k => f k * c) n = sg f n * c := by
  rw [show (fun k => f k * c) = (fun k => c * f k) from funext fun k => Int.mul_comm _ _, sg_mul, Int.mul_comm]
theorem ab_mul_le {x y X Y : Int} (hx : ab x ≤ X) (hy : ab y ≤ Y) : ab (x * y) ≤ X * Y := by
  rw [ab_mul]
  have := (ab_bd x).1
  have := (ab_bd y).1
  exact Int.mul_le_mul hx hy (by omega) (by omega)
/-- A row's number, by its square and the weight. -/
theorem ent_of_gr {a e : Nat → Int} (he : WtB e) (hg : gr a a e ≤ 50706024009129176059868128215040) {k : Nat} (hk : k < 48) (hw : 17179869184 ≤ e k) : ab (a k) ≤ 54760833024 := by
  have h1 : a k * a k * e k ≤ gr a a e := sg_one (f := fun k => a k * a k * e k) hk fun k hk => Int.mul_nonneg (sq_nn _) (he k hk).1
  refine Decidable.byContradiction fun hc => ?_
  have h2 : ab (a k) * ab (a k) = a k * a k := by
    rcases (show ab (a k) = a k ∨ ab (a k) = -(a k) by unfold ab; omega) with h | h <;> rw [h]
    exact Int.neg_mul_neg _ _
  have h3 : (54760833024 : Int) * 54760833024 ≤ ab (a k) * ab (a k) := Int.mul_le_mul (by omega) (by omega) (by decide) (ab_bd _).1
  rw [h2] at h3
  have h4 : (54760833024 : Int) * 54760833024 * 17179869184 ≤ a k * a k * e k := Int.mul_le_mul h3 hw (by decide) (sq_nn _)
  omega
/-- The factors, the matrix, the noise. -/
structure ClH (p F q : Nat → Int) : Prop where
  u : ∀ x, x < 276 → ab (p x) ≤ 268435455
  d : ∀ i, i < 24 → 17179869184 ≤ p (276 + i) ∧ p (276 + i) ≤ 8813272891391
  f : ∀ i m, i < 24 → m < 24 → ab (F (i * 24 + m) - (if i = m then 1073741824 else 0)) ≤ 16777215
  q : ∀ i, i < 24 → 17179869184 ≤ q i ∧ q i ≤ 566935683071
section
variable {p F q : Nat → Int} (C : ClH p F q)
include C
theorem ClH.uv {a k : Nat} (hk : k < 24) : ab (uV p a k) ≤ if a = k then 1073741824 else 268435455 := by
  by_cases h : a = k
  · subst h; rw [uV_self, if_pos rfl]; decide
  · rw [if_neg h]
    by_cases h2 : a < k
    · rw [uV_up h2]; exact C.u _ (pl_lt h2 hk)
    · rw [uV_low (by omega)]; decide
theorem ClH.uv1 {a k : Nat} (hk : k < 24) : ab (uV p a k) ≤ 1073741824 := by
  have := C.uv (a := a) hk
  split at this <;> omega
theorem ClH.cond : (∀ x, x < 300 → condF p x = p x) ∧ condH p = false := by
  constructor
  · intro x hx
    unfold condF
    split
    · next h => exact satV_sb (sb_ab (C.u x h) (by decide))
    · next h =>
      have := C.d (x - 276) (by omega)
      rw [show 276 + (x - 276) = x by omega] at this
      exact (cl_varV (by omega) (by omega)).1
  · unfold condH
    rw [cl_orB, cl_orB]; rfl
    · intro i hi; exact satH_sb (sb_ab (C.u i hi) (by decide))
    · intro i hi; have := C.d i hi; exact (cl_varV (by omega) (by omega)).2
theorem ClH.fsb {i m : Nat} (hi : i < 24) (hm : m < 24) : ab (F (i * 24 + m)) ≤ (if i = m then 1073741824 else 0) + 16777215 := by
  have := C.f i m hi hm
  by_cases h : i = m
  · rw [if_pos h] at this ⊢
    have a := ab_bd (F (i * 24 + m) - 1073741824)
    exact le_ab (by omega)
  · rw [if_neg h] at this ⊢
    have a := ab_bd (F (i * 24 + m) - 0)
    exact le_ab (by omega)
theorem ClH.fs {x : Nat} (hx : x < 576) : satV (F x) = F x ∧ satH (F x) = false := by
  have := C.fsb (i := x / 24) (m := x % 24) (by omega) (by omega)
  rw [show x / 24 * 24 + x % 24 = x by omega] at this
  have s : SB (F x) := by split at this <;> exact sb_ab this (by decide)
  exact ⟨satV_sb s, satH_sb s⟩
/-- The exact product of the matrix and U. -/
def clC (p F : Nat → Int) (i k : Nat) : Int := sg (fun m => F (i * 24 + m) * uV p m k) 24
theorem ClH.c_near {i k : Nat} (hi : i < 24) (hk : k < 24) : ab (clC p F i k - 1073741824 * uV p i k) ≤ 16777215 * 7247757289 := by
  have e1 : clC p F i k - 1073741824 * uV p i k = sg (fun m => (F (i * 24 + m) - (if i = m then 1073741824 else 0)) * uV p m k) 24 := by
    have : sg (fun m => (if i = m then 1073741824 else 0) * uV p m k) 24 = 1073741824 * uV p i k := by
      rw [sg_only hi fun m _ hm => by rw [if_neg (by omega), Int.zero_mul], if_pos rfl]
    have h2 : clC p F i k = sg (fun m => (F (i * 24 + m) - (if i = m then 1073741824 else 0)) * uV p m k) 24 + sg (fun m => (if i = m then 1073741824 else 0) * uV p m k) 24 := by
      unfold clC
      rw [← sg_add]
      exact sg_congr fun m _ => by grind
    omega
  rw [e1]
  refine Int.le_trans (sg_bd fun m hm => C.f i m hi hm) (Int.mul_le_mul_of_nonneg_left ?_ (by decide))
  have h := sg_le (f := fun m => ab (uV p m k)) (g := fun m => 268435455 + (if m = k then 805306369 else 0)) (n := 24) fun m _ => by
    have := C.uv (a := m) hk
    split at this <;> split <;> omega
  rw [sg_add, sg_const, sg_only hk fun m _ hm => if_neg hm, if_pos rfl] at h
  omega
theorem ClH.c_bd {i k : Nat} (hi : i < 24) (hk : k < 24) : ab (clC p F i k) ≤ 1073741824 * (if i = k then 1186988034 else 381681666) := by
  have a := C.c_near hi hk
  have b := C.uv (a := i) hk
  have c := ab_bd (clC p F i k - 1073741824 * uV p i k)
  have d := ab_bd (uV p i k)
  split at b <;> exact le_ab (by omega)
theorem ClH.w_left {i k : Nat} (hi : i < 24) (hk : k < 24) : stepW p F (i * 48 + k) = rsh (clC p F i k) 30 ∧ rwB (condF p) (fS F 24 0) i k = false := by
  have e1 : (i * 48 + k) / 48 = i := by omega
  have e2 : (i * 48 + k) % 48 = k := by omega
  have eF : ∀ m, m < 24 → rowF 24 (fS F 24 0) i m = F (i * 24 + m) := fun m hm => by
    have : (i * 24 + m) / 24 = i := by omega
    unfold rowF fS
    rw [this, if_pos (.inl hi)]; exact (C.fs (by omega)).1
  have eU : ∀ m, m < 24 → colF (condF p) k m = uV p m k := fun m hm => by
    unfold colF
    split
    · next h =>
      by_cases h2 : m = k
      · subst h2; rw [uV_self, uV_self]
      · rw [uV_up (by omega), uV_up (by omega), C.cond.1 _ (by have := pl_lt (i := m) (j := k) (by omega) hk; omega)]
    · rw [uV_low (by omega)]
  have hs : sg (fun m => rowF 24 (fS F 24 0) i m * colF (condF p) k m) 24 = clC p F i k := sg_congr fun m hm => by rw [eF m hm, eU m hm]
  have c := C.c_bd hi hk
  have r : ab (rsh (clC p F i k) 30) ≤ 1186988034 := rsh_ab (Int.le_trans c (by split <;> decide))
  have dv := dotV_sg (A := rowF 24 (fS F 24 0) i) (B := colF (condF p) k) (n := 24) (fun m hm => by
    rw [eF m hm, eU m hm]
    have a := C.fsb hi hm
    have b := C.uv1 (a := m) hk
    refine ⟨?_, sb_ab b (by decide)⟩
    split at a <;> exact sb_ab a (by decide)) (by rw [hs]; exact sb_ab r (by decide))
  rw [hs] at dv
  unfold stepW rowsW rwB
  rw [e1, e2, if_pos hk]
  exact dv
omit C in
theorem cl_right {i m : Nat} (hi : i < 24) (hm : m < 24) : stepW p F (i * 48 + (24 + m)) = if m = i then 1073741824 else 0 := by
  have e1 : (i * 48 + (24 + m)) / 48 = i := by omega
  have e2 : (i * 48 + (24 + m)) % 48 = 24 + m := by omega
  unfold stepW rowsW
  rw [e1, e2, if_neg (by omega)]
  by_cases h : m = i
  · rw [if_pos (by omega), if_pos h]
  · rw [if_neg (by omega), if_neg h]
theorem ClH.e_left {k : Nat} (hk : k < 24) : stepE p q k = p (276 + k) := by
  unfold stepE eS
  rw [if_pos hk, C.cond.1 _ (by omega)]
theorem ClH.e_right {k : Nat} (hk : k < 24) : stepE p q (24 + k) = q k := by
  have := C.q k hk
  unfold stepE eS
  rw [if_neg (by omega), if_pos (by omega), show 24 + k - 24 = k by omega]
  exact (qV_id (by omega) (by omega)).1
theorem ClH.wt : WtB (stepE p q) := fun k hk => by
  by_cases h : k < 24
  · rw [C.e_left h]; have := C.d k h; omega
  · obtain ⟨m, rfl⟩ : ∃ m, k = 24 + m := ⟨k - 24, by omega⟩
    rw [C.e_right (by omega)]; have := C.q m (by omega); omega
theorem ClH.wt_big {k : Nat} (hk : k < 48) : 17179869184 ≤ stepE p q k := by
  by_cases h : k < 24
  · rw [C.e_left h]; exact (C.d k h).1
  · obtain ⟨m, rfl⟩ : ∃ m, k = 24 + m := ⟨k - 24, by omega⟩
    rw [C.e_right (by omega)]; exact (C.q m (by omega)).1
theorem ClH.g_own {i : Nat} (hi : i < 24) : gr (rowF 48 (stepW p F) i) (rowF 48 (stepW p F) i) (stepE p q) ≤ 50700000000000000000000000000000 := by
  have key : ∀ k, k < 48 → rowF 48 (stepW p F) i k * rowF 48 (stepW p F) i k * stepE p q k ≤ (if k = i then 12420000000000000000000000000000 else 0) + ((if k = 24 + i then 660000000000000000000000000000 else 0) + (if k < 24 then 1290000000000000000000000000000 else 0)) := by
    intro k hk
    unfold rowF
    have sq : ∀ x : Int, x * x = ab x * ab x := fun x => by
      rcases (show ab x = x ∨ ab x = -x by unfold ab; omega) with h | h <;> rw [h]
      exact (Int.neg_mul_neg _ _).symm
    have e0 := (C.wt k hk).1
    by_cases h : k < 24
    · have c := C.c_bd hi h
      have b := rsh_ab c
      rw [← (C.w_left hi h).1] at b
      have d := C.d k h
      rw [C.e_left h, sq]
      rw [if_neg (show ¬ k = 24 + i by omega), if_pos h]
      by_cases h2 : k = i
      · rw [if_pos h2]
        rw [if_pos h2.symm] at b
        have m1 := Int.mul_le_mul b b (ab_bd _).1 (by decide)
        have m2 := Int.mul_le_mul m1 d.2 (by omega) (by decide)
        omega
      · rw [if_neg h2]
        rw [if_neg (Ne.symm h2)] at b
        have m1 := Int.mul_le_mul b b (ab_bd _).1 (by decide)
        have m2 := Int.mul_le_mul m1 d.2 (by omega) (by decide)
        omega
    · obtain ⟨m, rfl⟩ : ∃ m, k = 24 + m := ⟨k - 24, by omega⟩
      have d := C.q m (by omega)
      rw [cl_right hi (by omega), C.e_right (by omega), if_neg (show ¬ 24 + m = i by omega), if_neg h]
      by_cases h2 : m = i
      · rw [if_pos h2, if_pos (by omega)]; omega
      · rw [if_neg h2, if_neg (by omega)]; omega
  have s := sg_le key
  rw [sg_add, sg_add, sg_only (show i < 48 by omega) (fun k _ h => if_neg h), sg_only (show 24 + i < 48 by omega) (fun k _ h => if_neg h), if_pos rfl, if_pos rfl] at s
  have e3 : sg (fun k => if k < 24 then (1290000000000000000000000000000 : Int) else 0) 48 = 24 * 1290000000000000000000000000000 := by decide
  rw [e3] at s
  exact Int.le_trans s (by decide)
/-- The noise's numbers in the rows: One in its own, nothing behind. -/
def RgtP (W e : Nat → Int) (n : Nat) : Prop := ∀ m, m < 24 → WN W e n (m * 48 + (24 + m)) = 1073741824 ∧ ∀ i, m < i → i < 24 → WN W e n (i * 48 + (24 + m)) = 0
omit C in
theorem rgt_step {W e : Nat → Int} {n : Nat} (hn : n < 24) (p : RgtP W e n) (S : StO (WN W e n) e (23 - n)) : RgtP W e (n + 1) := by
  intro m hm
  have key : ∀ i, m ≤ i → i < 24 → WN W e (n + 1) (i * 48 + (24 + m)) = WN W e n (i * 48 + (24 + m)) := by
    intro i hmi hi
    show elW (WN W e n) e (23 - n) (23 - n) 0 (i * 48 + (24 + m)) = _
    by_cases h : i < 23 - n
    · rw [S.w i h _ (by omega), (p m hm).2 (23 - n) (by omega) (by omega), Int.mul_zero, show rsh 0 30 = 0 by decide, Int.sub_zero]
    · exact row_ge (by omega) (by omega)
  exact ⟨by rw [key m (Nat.le_refl _) hm]; exact (p m hm).1, fun i h1 h2 => by rw [key i (by omega) h2]; exact (p m hm).2 i h1 h2⟩
theorem ClH.run : RunH (stepW p F) (stepE p q) (RgtP (stepW p F) (stepE p q)) where
  he := C.wt
  p0 := fun m hm => ⟨by show stepW p F _ = _; rw [cl_right hm hm, if_pos rfl], fun i h1 h2 => by show stepW p F _ = _; rw [cl_right h2 hm, if_neg (by omega)]⟩
  g := fun i hi => C.g_own hi
  hN := fun n hn _ hg i hi => by
    have h := sg_le (f := fun k => ab (WN (stepW p F) (stepE p q) n (i * 48 + k))) (g := fun _ => 54760833024) (n := 48) fun k hk => ent_of_gr (a := rowF 48 (WN (stepW p F) (stepE p q) n) i) C.wt (hg i hi) hk (C.wt_big hk)
    rw [sg_const] at h
    omega
  hS := fun n hn p => .inl ⟨24 + (23 - n), by omega, (p (23 - n) (by omega)).1, C.wt_big (by omega)⟩
  hP := fun n hn p _ S => rgt_step hn p S
theorem ClH.flag : stepH p F q = false := by
  unfold stepH
  have h1 : loop1H q F 24 = false := by
    unfold loop1H row1H
    refine cl_orB fun i hi => ?_
    have := C.q i hi
    rw [(qV_id (a := q i) (by omega) (by omega)).2, cl_orB fun k hk => (C.fs (by omega)).2]; rfl
  have h2 : rowsH (condF p) (fS F 24 0) = false := by
    unfold rowsH rwH
    exact cl_orB fun k hk => cl_orB fun i hi => (C.w_left hi hk).2
  rw [C.cond.2, h1, h2, (C.run.all 24 (Nat.le_refl _)).2.flag]; rfl
end
end Go.Proofs.Ytkllgphhfkoknaa
/- One stage of bierman's update, with its roundings (plain law of BiermanClose, 1). No program. -/
namespace Go.Proofs.Ytkllgphhfkoknaa
theorem ab_sub (x y : Int) : ab (x - y) ≤ ab x + ab y := by unfold ab; omega
theorem ab_sq (x : Int) : ab x * ab x = x * x := by
  rcases (show ab x = x ∨ ab x = -x by unfold ab; omega) with h | h <;> rw [h]
  exact Int.neg_mul_neg _ _
/-- A number, by its square. -/
theorem abw {x y W : Int} (hy : 0 ≤ y) (hW : 0 ≤ W) (h : x * x ≤ W * W * (y * y)) : ab x ≤ W * y := by
  refine Decidable.byContradiction fun hc => ?_
  have h0 := Int.mul_nonneg hW hy
  have h1 := ab_sq x
  obtain ⟨A, hA⟩ : ∃ A, ab x = A := ⟨_, rfl⟩
  obtain ⟨B, hB⟩ : ∃ B, W * y = B := ⟨_, rfl⟩
  have e : W * W * (y * y) = B * B := by rw [← hB]; grind
  rw [hA] at h1 hc
  rw [hB] at h0 hc
  rw [e] at h
  have h2 := Int.mul_pos (a := A - B) (b := A + B) (by omega) (by omega)
  have h3 : (A - B) * (A + B) = A * A - B * B := by grind
  omega
theorem ab_two {x y S : Int} (hx : x * x ≤ S) (hy : y * y ≤ S) : ab (x * y) ≤ S := by
  have p := sq_nn (x - y)
  have q := sq_nn (x + y)
  have e1 : (x - y) * (x - y) = x * x - 2 * (x * y) + y * y := by grind
  have e2 : (x + y) * (x + y) = x * x + 2 * (x * y) + y * y := by grind
  exact le_ab (by omega)
/-- One stage of bierman's update, exactly, by its roundings. -/
theorem bc_id (c a ap D f v ui uj bi bj ui' uj' Dp bi' bj' e1 ηi ηj e4 e5 e6i e6j : Int)
   (h1 : ap*Dp = D*a + e1) (h2i : a*ui' = a*ui - bi*f + ηi) (h2j : a*uj' = a*uj - bj*f + ηj) (h4 : c*v = D*f + e4) (h5 : c*ap = c*a + f*v + e5) (h6i : c*bi' = c*bi + ui*v + e6i) (h6j : c*bj' = c*bj + uj*v + e6j) :
   c*(ap*(c*c*(bi*bj)) + a*ap*(D*(ui*uj)) - a*ap*(ui'*uj'*Dp) - a*(c*c*(bi'*bj'))) = (c*f*e4 + c*c*e5)*(bi*bj) + a*((D*e5 - v*e4)*(ui*uj)) - a*(c*e4*(ui*bj + uj*bi)) - c*(ηi*(D*(a*uj - bj*f)) + ηj*(D*(a*ui - bi*f)) + D*(ηi*ηj)) - a*(c*(e6i*(c*bj + uj*v) + e6j*(c*bi + ui*v) + e6i*e6j)) - c*(a*(e1*(ui'*uj'))) := by
  obtain rfl : e1 = ap*Dp - D*a := by omega
  obtain rfl : ηi = a*ui' - a*ui + bi*f := by omega
  obtain rfl : ηj = a*uj' - a*uj + bj*f := by omega
  obtain rfl : e4 = c*v - D*f := by omega
  obtain rfl : e5 = c*ap - c*a - f*v := by omega
  obtain rfl : e6i = c*bi' - c*bi - ui*v := by omega
  obtain rfl : e6j = c*bj' - c*bj - uj*v := by omega
  grind
/-- .. what they come to. -/
theorem bc_m4 {a ap D f v u b e4 : Int} (ha : 17179869184 ≤ a) (hap : a ≤ ap) (hD : 0 ≤ D ∧ D ≤ 8813272891391) (hu : ab u ≤ 1073741824) (hb : ab b ≤ 104200000000000)
    (s : b * b ≤ 22000000000000 * a) (vv : v * v ≤ D * ap) (h4 : 1073741824 * v = D * f + e4) (he4 : ab e4 ≤ 536870912) : ab (D * (a * u - b * f)) ≤ 24500000000000000000000 * ap := by
  have e : D * (a * u - b * f) = a * (D * u) - 1073741824 * (b * v) + b * e4 := by
    obtain rfl : e4 = 1073741824 * v - D * f := by omega
    grind
  have b1 : ab (D * u) ≤ 8813272891391 * 1073741824 := ab_mul_le (le_ab (by omega)) hu
  have b2 : ab (a * (D * u)) ≤ a * (8813272891391 * 1073741824) := ab_mul_le (le_ab (by omega)) b1
  have b3 : ab (b * e4) ≤ 104200000000000 * 536870912 := ab_mul_le hb he4
  have b4 : ab (b * v) ≤ 14000000000000 * ap := by
    refine abw (by omega) (by decide) ?_
    have e2 : b * v * (b * v) = b * b * (v * v) := by grind
    rw [e2]
    have m1 := Int.mul_le_mul s vv (sq_nn v) (by omega)
    have m2 : 22000000000000 * a * (D * ap) = 22000000000000 * (D * (a * ap)) := by grind
    have m3 : D * (a * ap) ≤ 8813272891391 * (ap * ap) := Int.mul_le_mul hD.2 (Int.mul_le_mul_of_nonneg_right hap (by omega)) (Int.mul_nonneg (by omega) (by omega)) (by decide)
    have m4 : 0 ≤ ap * ap := sq_nn ap
    rw [m2] at m1
    omega
  have b5 := ab_add (a * (D * u) - 1073741824 * (b * v)) (b * e4)
  have b6 := ab_sub (a * (D * u)) (1073741824 * (b * v))
  have b7 : ab (1073741824 * (b * v)) = 1073741824 * ab (b * v) := by rw [ab_mul]; rfl
  rw [e]
  omega
theorem bc_bound {a ap D f v ui uj bi bj ui' uj' e1 ηi ηj e4 e5 e6i e6j : Int}
    (ha : 17179869184 ≤ a) (hap : a ≤ ap) (hD : 0 ≤ D ∧ D ≤ 8813272891391) (hf : ab f ≤ 1811939328) (hv : ab v ≤ 14872398004223)
    (hui : ab ui ≤ 1073741824) (huj : ab uj ≤ 1073741824) (hbi : ab bi ≤ 104200000000000) (hbj : ab bj ≤ 104200000000000)
    (si : bi * bi ≤ 22000000000000 * a) (sj : bj * bj ≤ 22000000000000 * a) (vv : v * v ≤ D * ap) (h4 : 1073741824 * v = D * f + e4)
    (he1 : 2 * ab e1 ≤ ap) (hηi : 2 * ab ηi ≤ 7 * a) (hηj : 2 * ab ηj ≤ 7 * a) (he4 : ab e4 ≤ 536870912) (he5 : ab e5 ≤ 536870912) (he6i : ab e6i ≤ 536870912) (he6j : ab e6j ≤ 536870912)
    (hui' : ab ui' ≤ 70000000000) (huj' : ab uj' ≤ 70000000000) :
    ab ((1073741824*f*e4 + 1073741824*1073741824*e5)*(bi*bj) + a*((D*e5 - v*e4)*(ui*uj)) - a*(1073741824*e4*(ui*bj + uj*bi)) - 1073741824*(ηi*(D*(a*uj - bj*f)) + ηj*(D*(a*ui - bi*f)) + D*(ηi*ηj)) - a*(1073741824*(e6i*(1073741824*bj + uj*v) + e6j*(1073741824*bi + ui*v) + e6i*e6j)) - 1073741824*(a*(e1*(ui'*uj')))) ≤ 1073741824 * (230584300921369395200000 * (a * ap)) := by
  have y1 : 17179869184 * a ≤ a * ap := by rw [Int.mul_comm]; exact Int.mul_le_mul_of_nonneg_left (by omega) (by omega)
  have y2 : a * a ≤ a * ap := Int.mul_le_mul_of_nonneg_left hap (by omega)
  have ua : ab a ≤ a := le_ab (by omega)
  have c1 : ab 1073741824 ≤ 1073741824 := by decide
  have d1 : ab D ≤ 8813272891391 := le_ab (by omega)
  -- 1
  have t1 : ab ((1073741824*f*e4 + 1073741824*1073741824*e5)*(bi*bj)) ≤ (1073741824*1811939328*536870912 + 1073741824*1073741824*536870912) * (22000000000000 * a) :=
    ab_mul_le (Int.le_trans (ab_add _ _) (Int.add_le_add (ab_mul_le (ab_mul_le c1 hf) he4) (ab_mul_le (by decide) he5))) (ab_two si sj)
  -- 2
  have t2 : ab (a*((D*e5 - v*e4)*(ui*uj))) ≤ a * ((8813272891391 * 536870912 + 14872398004223 * 536870912) * (1073741824 * 1073741824)) :=
    ab_mul_le ua (ab_mul_le (Int.le_trans (ab_sub _ _) (Int.add_le_add (ab_mul_le d1 he5) (ab_mul_le hv he4))) (ab_mul_le hui huj))
  -- 3
  have t3 : ab (a*(1073741824*e4*(ui*bj + uj*bi))) ≤ a * (1073741824 * 536870912 * (1073741824 * 104200000000000 + 1073741824 * 104200000000000)) :=
    ab_mul_le ua (ab_mul_le (ab_mul_le c1 he4) (Int.le_trans (ab_add _ _) (Int.add_le_add (ab_mul_le hui hbj) (ab_mul_le huj hbi))))
  -- 4
  have m4i := bc_m4 ha hap hD hui hbi si vv h4 he4
  have m4j := bc_m4 ha hap hD huj hbj sj vv h4 he4
  have g1 : ab (2*ηi) ≤ 7 * a := by rw [ab_mul, show ab 2 = 2 from rfl]; exact hηi
  have g2 : ab (2*ηj) ≤ 7 * a := by rw [ab_mul, show ab 2 = 2 from rfl]; exact hηj
  have t4i : ab (2*ηi*(D*(a*uj - bj*f))) ≤ 7 * a * (24500000000000000000000 * ap) := ab_mul_le g1 m4j
  have t4j : ab (2*ηj*(D*(a*ui - bi*f))) ≤ 7 * a * (24500000000000000000000 * ap) := ab_mul_le g2 m4i
  have t4d : ab (D*(2*ηi*(2*ηj))) ≤ 8813272891391 * (7 * a * (7 * a)) := ab_mul_le d1 (ab_mul_le g1 g2)
  have r1 : 7 * a * (24500000000000000000000 * ap) = 171500000000000000000000 * (a * ap) := by grind
  have r2 : 7 * a * (7 * a) = 49 * (a * a) := by grind
  rw [r1] at t4i t4j
  rw [r2] at t4d
  have t4 : ab (4 * (ηi*(D*(a*uj - bj*f)) + ηj*(D*(a*ui - bi*f)) + D*(ηi*ηj))) ≤ 2 * (171500000000000000000000 * (a * ap)) + 2 * (171500000000000000000000 * (a * ap)) + 8813272891391 * (49 * (a * a)) := by
    have e : 4 * (ηi*(D*(a*uj - bj*f)) + ηj*(D*(a*ui - bi*f)) + D*(ηi*ηj)) = 2 * (2*ηi*(D*(a*uj - bj*f))) + 2 * (2*ηj*(D*(a*ui - bi*f))) + D*(2*ηi*(2*ηj)) := by grind
    rw [e]
    have p1 := ab_add (2 * (2*ηi*(D*(a*uj - bj*f))) + 2 * (2*ηj*(D*(a*ui - bi*f)))) (D*(2*ηi*(2*ηj)))
    have p2 := ab_add (2 * (2*ηi*(D*(a*uj - bj*f)))) (2 * (2*ηj*(D*(a*ui - bi*f))))
    have p3 : ab (2 * (2*ηi*(D*(a*uj - bj*f)))) = 2 * ab (2*ηi*(D*(a*uj - bj*f))) := by rw [ab_mul]; rfl
    have p4 : ab (2 * (2*ηj*(D*(a*ui - bi*f)))) = 2 * ab (2*ηj*(D*(a*ui - bi*f))) := by rw [ab_mul]; rfl
    omega
  -- 5
  have t5 : ab (a*(1073741824*(e6i*(1073741824*bj + uj*v) + e6j*(1073741824*bi + ui*v) + e6i*e6j))) ≤ a * (1073741824 * (536870912 * (1073741824 * 104200000000000 + 1073741824 * 14872398004223) + 536870912 * (1073741824 * 104200000000000 + 1073741824 * 14872398004223) + 536870912 * 536870912)) :=
    ab_mul_le ua (ab_mul_le c1 (Int.le_trans (ab_add _ _) (Int.add_le_add (Int.le_trans (ab_add _ _) (Int.add_le_add
      (ab_mul_le he6i (Int.le_trans (ab_add _ _) (Int.add_le_add (ab_mul_le c1 hbj) (ab_mul_le huj hv))))
      (ab_mul_le he6j (Int.le_trans (ab_add _ _) (Int.add_le_add (ab_mul_le c1 hbi) (ab_mul_le hui hv)))))) (ab_mul_le he6i he6j))))
  -- 6
  have t6 : ab (a*(2*e1*(ui'*uj'))) ≤ a * (ap * (70000000000 * 70000000000)) := ab_mul_le ua (ab_mul_le (by rw [ab_mul, show ab 2 = 2 from rfl]; exact he1) (ab_mul_le hui' huj'))
  have r6 : a * (ap * (70000000000 * 70000000000)) = 4900000000000000000000 * (a * ap) := by grind
  have r6' : a*(2*e1*(ui'*uj')) = 2 * (a*(e1*(ui'*uj'))) := by grind
  rw [r6, r6'] at t6
  obtain ⟨y, hy⟩ : ∃ y, a * ap = y := ⟨_, rfl⟩
  obtain ⟨z, hz⟩ : ∃ z, a * a = z := ⟨_, rfl⟩
  rw [hy] at y1 y2 t4 t6 ⊢
  rw [hz] at y2 t4
  generalize (1073741824*f*e4 + 1073741824*1073741824*e5)*(bi*bj) = T1 at *
  generalize a*((D*e5 - v*e4)*(ui*uj)) = T2 at *
  generalize a*(1073741824*e4*(ui*bj + uj*bi)) = T3 at *
  generalize ηi*(D*(a*uj - bj*f)) + ηj*(D*(a*ui - bi*f)) + D*(ηi*ηj) = T4 at *
  generalize a*(1073741824*(e6i*(1073741824*bj + uj*v) + e6j*(1073741824*bi + ui*v) + e6i*e6j)) = T5 at *
  generalize a*(e1*(ui'*uj')) = T6 at *
  have a1 := ab_le t1
  have a2 := ab_le t2
  have a3 := ab_le t3
  have a4 := ab_le t4
  have a5 := ab_le t5
  have a6 := ab_le t6
  exact le_ab (by omega)
end Go.Proofs.Ytkllgphhfkoknaa
/- bierman's update of the law's numbers: no clamps, and the roundings of each stage (plain law of BiermanClose, 2). No program beyond the numbers' names. -/
namespace Go.Proofs.Ytkllgphhfkoknaa
theorem rdivV {d : Int} (x : Int) (hd : 0 < d) : 2 * ab (d * rdiv x d - x) ≤ d := by
  have := rdiv_err (x := x) hd
  unfold ab; omega
theorem rdiv_ab {x d m : Int} (hd : 0 < d) (hm : 0 ≤ m) (h : ab x ≤ m * d) : ab (rdiv x d) ≤ m := by
  have e := rdiv_err (x := x) hd
  have := ab_le h
  obtain ⟨q, hq⟩ : ∃ q, rdiv x d = q := ⟨_, rfl⟩
  rw [hq] at e ⊢
  refine Decidable.byContradiction fun hc => ?_
  rcases (show m + 1 ≤ q ∨ q ≤ -(m + 1) by unfold ab at hc; omega) with h1 | h1
  · have h2 := Int.mul_le_mul_of_nonneg_left h1 (show 0 ≤ d by omega)
    have e2 : d * (m + 1) = m * d + d := by grind
    omega
  · have h2 := Int.mul_le_mul_of_nonneg_left h1 (show 0 ≤ d by omega)
    have e2 : d * -(m + 1) = -(m * d) - d := by grind
    omega
/-- The law's factors, row, variance. -/
structure BcH (p h : Nat → Int) (r : Int) : Prop where
  u : ∀ x, x < 276 → ab (p x) ≤ 268435455
  d : ∀ i, i < 24 → 17179869184 ≤ p (276 + i) ∧ p (276 + i) ≤ 8813272891391
  h : ∀ i, i < 24 → ab (h i) ≤ 268435455
  r : 17179869184 ≤ r ∧ r ≤ 8813272891391
def bcF (p h : Nat → Int) (j : Nat) : Int := sg (fun m => h m * colF p j m) (j + 1)
section
variable {p h : Nat → Int} {r : Int} (C : BcH p h r)
include C
theorem BcH.uv {a k : Nat} (hk : k < 24) : ab (uV p a k) ≤ if a = k then 1073741824 else 268435455 := by
  by_cases h : a = k
  · subst h; rw [uV_self, if_pos rfl]; decide
  · rw [if_neg h]
    by_cases h2 : a < k
    · rw [uV_up h2]; exact C.u _ (pl_lt h2 hk)
    · rw [uV_low (by omega)]; decide
theorem BcH.uv1 {a k : Nat} (hk : k < 24) : ab (uV p a k) ≤ 1073741824 := by
  have := C.uv (a := a) hk
  split at this <;> omega
theorem BcH.uvl {a k : Nat} (hk : k < 24) (hne : a ≠ k) : ab (uV p a k) ≤ 268435455 := by
  have := C.uv (a := a) hk
  rwa [if_neg hne] at this
theorem BcH.f {j : Nat} (hj : j < 24) : bkF p h j = rsh (bcF p h j) 30 ∧ bkFH p h j = false ∧ ab (bkF p h j) ≤ 1811939328 := by
  have c1 : ∀ m, m < j + 1 → ab (colF p j m) ≤ 268435455 + (if m = j then 805306369 else 0) := fun m hm => by
    unfold colF
    rw [if_pos (by omega)]
    have := C.uv (a := m) hj
    split at this <;> split <;> omega
  have b1 : ab (bcF p h j) ≤ 268435455 * 7247757289 := by
    refine Int.le_trans (sg_bd (x := h) (y := colF p j) fun k hk => C.h k (by omega)) (Int.mul_le_mul_of_nonneg_left ?_ (by decide))
    have h := sg_le (f := fun m => ab (colF p j m)) (g := fun m => 268435455 + (if m = j then 805306369 else 0)) (n := j + 1) c1
    rw [sg_add, sg_const, sg_only (a := j) (by omega) fun m _ hm => if_neg hm, if_pos rfl] at h
    have : ((j + 1 : Nat) : Int) ≤ 24 := by omega
    omega
  have b2 : ab (rsh (bcF p h j) 30) ≤ 1811939328 := rsh_ab (Int.le_trans b1 (by decide))
  have d := dotV_sg (A := h) (B := colF p j) (n := j + 1) (fun k hk => ⟨sb_ab (C.h k (by omega)) (by decide), sb_ab (Int.le_trans (c1 k hk) (show _ ≤ 1073741824 by split <;> omega)) (by decide)⟩) (sb_ab (show ab (rsh (sg (fun k => h k * colF p j k) (j + 1)) 30) ≤ 1811939328 from b2) (by decide))
  have e : bkF p h j = rsh (bcF p h j) 30 := d.1
  exact ⟨e, d.2, by rw [e]; exact b2⟩
theorem BcH.v {j : Nat} (hj : j < 24) : bkV p h j = rsh (p (276 + j) * bkF p h j) 30 ∧ bkVH p h j = false ∧ ab (bkV p h j) ≤ 14872398004223 := by
  have f := (C.f hj).2.2
  have d := C.d j hj
  have b : ab (p (276 + j) * bkF p h j) ≤ 1073741824 * 14872398004223 := Int.le_trans (ab_mul_le (le_ab (by omega) : ab (p (276 + j)) ≤ 8813272891391) f) (by decide)
  have b2 := rsh_ab b
  have m := mulV_of (show SB (p (276 + j)) by unfold SB; omega) (sb_ab f (by decide)) (sb_ab b2 (by decide))
  exact ⟨m.1, m.2, by unfold bkV; rw [m.1]; exact b2⟩
theorem BcH.fv {j : Nat} (hj : j < 24) : 0 ≤ bkF p h j * bkV p h j ∧ mulV (bkF p h j) (bkV p h j) 30 = rsh (bkF p h j * bkV p h j) 30 ∧ mulH (bkF p h j) (bkV p h j) 30 = false ∧ 0 ≤ rsh (bkF p h j * bkV p h j) 30 ∧ rsh (bkF p h j * bkV p h j) 30 ≤ 25097171632127 := by
  have f := (C.f hj).2.2
  have v := C.v hj
  have d := C.d j hj
  have b : ab (bkF p h j * bkV p h j) ≤ 1073741824 * 25097171632127 := Int.le_trans (ab_mul_le f v.2.2) (by decide)
  have b2 := rsh_ab b
  have m := mulV_of (sb_ab f (by decide)) (sb_ab v.2.2 (by decide)) (sb_ab b2 (by decide))
  have nn : 0 ≤ bkF p h j * bkV p h j := by
    rw [v.1]
    by_cases hs : 0 ≤ bkF p h j
    · exact Int.mul_nonneg hs (cl_rshnn (Int.mul_nonneg (by omega) hs))
    · exact Int.mul_nonneg_of_nonpos_of_nonpos (by omega) (cl_rshnp (Int.mul_nonpos_of_nonneg_of_nonpos (by omega) (by omega)))
  exact ⟨nn, m.1, m.2, cl_rshnn nn, (ab_le b2).2⟩
theorem BcH.a : ∀ j, j ≤ 24 → 17179869184 ≤ bkA p h r j ∧ bkA p h r j ≤ 8813272891391 + j * 25097171632127
  | 0, _ => ⟨C.r.1, by have := C.r.2; simp only [bkA]; omega⟩
  | j + 1, hj => by
    have ih := BcH.a j (by omega)
    have f := C.fv (j := j) (by omega)
    have hb : (j : Int) ≤ 24 := by omega
    have e : bkA p h r (j + 1) = bkA p h r j + rsh (bkF p h j * bkV p h j) 30 := by
      simp only [bkA]
      unfold addV
      rw [f.2.1, satV_sb (show SB (bkA p h r j) by unfold SB; omega), satV_sb (show SB (rsh (bkF p h j * bkV p h j) 30) by unfold SB; omega), satV_sb]
      unfold SB; omega
    rw [e, Int.natCast_add]
    omega
theorem BcH.a2 {j : Nat} (hj : j ≤ 24) : 17179869184 ≤ bkA p h r j ∧ bkA p h r j ≤ 612000000000000 := by
  have := C.a j hj
  have hb : (j : Int) ≤ 24 := by omega
  omega
theorem BcH.as {j : Nat} (hj : j < 24) : bkA p h r (j + 1) = bkA p h r j + rsh (bkF p h j * bkV p h j) 30 ∧ bkAH p h r j = false ∧ bkA p h r j ≤ bkA p h r (j + 1) := by
  have ih := C.a2 (j := j) (by omega)
  have f := C.fv (j := j) (by omega)
  have s1 : SB (bkA p h r j) := by unfold SB; omega
  have s2 : SB (rsh (bkF p h j * bkV p h j) 30) := by unfold SB; omega
  have s3 : SB (bkA p h r j + rsh (bkF p h j * bkV p h j) 30) := by unfold SB; omega
  have e : bkA p h r (j + 1) = bkA p h r j + rsh (bkF p h j * bkV p h j) 30 := by
    simp only [bkA]
    unfold addV
    rw [f.2.1, satV_sb s1, satV_sb s2, satV_sb s3]
  refine ⟨e, ?_, by omega⟩
  unfold bkAH addH
  rw [f.2.2.1, f.2.1, satV_sb s1, satV_sb s2, satH_sb s1, satH_sb s2, satH_sb s3]; rfl
theorem BcH.D {j : Nat} (hj : j < 24) : upD p h r j = rdiv (p (276 + j) * bkA p h r j) (bkA p h r (j + 1)) ∧ upDH p h r j = false ∧ 1 ≤ upD p h r j ∧ upD p h r j ≤ 8813272891391 := by
  have a := C.a2 (j := j) (by omega)
  have a' := C.a2 (j := j + 1) (by omega)
  have up := (C.as hj).2.2
  have d := C.d j hj
  obtain ⟨D, hD⟩ : ∃ D, p (276 + j) = D := ⟨_, rfl⟩
  obtain ⟨A, hA⟩ : ∃ D, bkA p h r j = D := ⟨_, rfl⟩
  obtain ⟨B, hB⟩ : ∃ D, bkA p h r (j + 1) = D := ⟨_, rfl⟩
  unfold upD upDH mdivV mdivH byV byH
  rw [hD, hA, hB]
  rw [hA] at a up
  rw [hB] at a' up
  rw [hD] at d
  clear hA hB hD
  have e := rdiv_err (x := D * A) (d := B) (by omega)
  obtain ⟨q, hq⟩ : ∃ q, rdiv (D * A) B = q := ⟨_, rfl⟩
  have lo : 17179869184 * 17179869184 ≤ D * A := Int.mul_le_mul d.1 a.1 (by decide) (by omega)
  have hi : D * A ≤ D * B := Int.mul_le_mul_of_nonneg_left up (by omega)
  have q1 : 1 ≤ q := by
    refine Decidable.byContradiction fun hc => ?_
    have := Int.mul_nonpos_of_nonneg_of_nonpos (show 0 ≤ B by omega) (show q ≤ 0 by omega)
    rw [hq] at e
    omega
  have q2 : q ≤ D := by
    refine Decidable.byContradiction fun hc => ?_
    have h1 := Int.mul_le_mul_of_nonneg_left (show D + 1 ≤ q by omega) (show 0 ≤ B by omega)
    have h2 : B * (D + 1) = D * B + B := by grind
    rw [hq] at e
    omega
  have s1 : SB D := by unfold SB; omega
  have s2 : SB A := by unfold SB; omega
  have s3 : SB B := by unfold SB; omega
  have s4 : SB q := by unfold SB; omega
  have v := cl_varV (a := q) q1 (by omega)
  rw [satV_sb s1, satV_sb s2, satV_sb s3, satH_sb s1, satH_sb s2, satH_sb s3, if_neg (by omega), hq, satV_sb s4, satH_sb s4, v.1, v.2]
  refine ⟨rfl, ?_, q1, by omega⟩
  simp; omega
theorem BcH.x {j : Nat} (hj : j < 24) : upX p h r j = -rdiv (bkF p h j * 17592186044416) (bkA p h r j) ∧ upXH p h r j = false ∧ ab (upX p h r j) ≤ 1855425871872 := by
  have a := C.a2 (j := j) (by omega)
  have f := (C.f hj).2.2
  have b : ab (bkF p h j * 17592186044416) ≤ 1855425871872 * bkA p h r j := by
    have := ab_mul_le f (show ab 17592186044416 ≤ 17592186044416 by decide)
    omega
  have b2 := rdiv_ab (show 0 < bkA p h r j by omega) (by decide) b
  have e : (2 : Int) ^ (44 : Int).toNat = 17592186044416 := by decide
  have s1 : SB (bkF p h j) := sb_ab f (by decide)
  have s2 : SB (bkA p h r j) := by unfold SB; omega
  have s3 := sb_ab b2 (by decide)
  unfold upX upXH divV divH byV byH
  rw [if_neg (by decide), satV_sb s1, satV_sb s2, e, satV_sb s3, satH_sb s1, satH_sb s2, satH_sb s3, if_neg (by omega)]
  refine ⟨rfl, ?_, by rw [ab_neg]; exact b2⟩
  simp; omega
theorem BcH.uvv {i j : Nat} (hj : j < 24) (hne : i ≠ j) : mulV (uV p i j) (bkV p h j) 30 = rsh (uV p i j * bkV p h j) 30 ∧ mulH (uV p i j) (bkV p h j) 30 = false ∧ ab (rsh (uV p i j * bkV p h j) 30) ≤ 3718099501056 := by
  have v := (C.v hj).2.2
  have u := C.uvl hj hne
  have b : ab (uV p i j * bkV p h j) ≤ 1073741824 * 3718099501056 := Int.le_trans (ab_mul_le u v) (by decide)
  have b2 := rsh_ab b
  have m := mulV_of (sb_ab u (by decide)) (sb_ab v (by decide)) (sb_ab b2 (by decide))
  exact ⟨m.1, m.2, b2⟩
theorem BcH.b : ∀ j, j ≤ 24 → ∀ i, ab (upB p h j i) ≤ 14872398004223 + j * 3718099501056 ∧ (j ≤ i → upB p h j i = 0)
  | 0, _, i => ⟨by simp only [upB]; exact le_ab (by omega), fun _ => rfl⟩
  | j + 1, hj, i => by
    have ih := BcH.b j (by omega) i
    have hb : (j : Int) ≤ 24 := by omega
    rw [Int.natCast_add]
    simp only [upB]
    by_cases h1 : i = j
    · rw [if_pos h1]
      have := (C.v (j := j) (by omega)).2.2
      exact ⟨by omega, fun h => by omega⟩
    · rw [if_neg h1]
      by_cases h2 : i < j
      · rw [if_pos h2]
        have u := C.uvv (i := i) (j := j) (by omega) h1
        have a := ab_add (upB p h j i) (rsh (uV p i j * bkV p h j) 30)
        unfold addV
        have s1 : SB (upB p h j i) := sb_ab ih.1 (by omega)
        have s2 := sb_ab u.2.2 (by decide)
        rw [u.1, satV_sb s1, satV_sb s2, satV_sb (sb_ab a (by omega))]
        exact ⟨by omega, fun h => by omega⟩
      · rw [if_neg h2]
        exact ⟨by omega, fun h => ih.2 (by omega)⟩
theorem BcH.b2 {j : Nat} (hj : j ≤ 24) (i : Nat) : ab (upB p h j i) ≤ 104200000000000 := by
  have := (C.b j hj i).1
  have hb : (j : Int) ≤ 24 := by omega
  omega
theorem BcH.bs {i j : Nat} (hj : j < 24) (hij : i < j) : upB p h (j + 1) i = upB p h j i + rsh (uV p i j * bkV p h j) 30 ∧ upBH p h j i = false := by
  have ih := C.b2 (j := j) (by omega) i
  have u := C.uvv (i := i) (j := j) hj (by omega)
  have a := ab_add (upB p h j i) (rsh (uV p i j * bkV p h j) 30)
  have s1 : SB (upB p h j i) := sb_ab ih (by omega)
  have s2 := sb_ab u.2.2 (by decide)
  have s3 := sb_ab a (show _ ≤ 1152921504606846976 by omega)
  refine ⟨?_, ?_⟩
  · simp only [upB]
    rw [if_neg (by omega), if_pos hij]
    unfold addV
    rw [u.1, satV_sb s1, satV_sb s2, satV_sb s3]
  · unfold upBH addH
    rw [u.2.1, u.1, satV_sb s1, satV_sb s2, satH_sb s1, satH_sb s2, satH_sb s3]; rfl
theorem BcH.U {i j : Nat} (hj : j < 24) (hij : i < j) : upU p h r j i = uV p i j + rsh (upB p h j i * upX p h r j) 44 ∧ upUH p h r j i = false := by
  have b := C.b2 (j := j) (by omega) i
  have x := (C.x hj).2.2
  have u := C.uvl (a := i) hj (by omega)
  have m : ab (upB p h j i * upX p h r j) ≤ 104200000000000 * 1855425871872 := ab_mul_le b x
  have m2 : ab (rsh (upB p h j i * upX p h r j) 44) ≤ 11000000000000 := by
    unfold rsh
    rw [show (2 : Int) ^ 44 = 17592186044416 from by decide]
    exact rdiv_ab (by decide) (by decide) (Int.le_trans m (by decide))
  have a := ab_add (uV p i j) (rsh (upB p h j i * upX p h r j) 44)
  have s1 := sb_ab b (by decide)
  have s2 := sb_ab x (by decide)
  have s3 := sb_ab m2 (by decide)
  have s4 := sb_ab u (by decide)
  have s5 := sb_ab a (show _ ≤ 1152921504606846976 by omega)
  have e : mulV (upB p h j i) (upX p h r j) 44 = rsh (upB p h j i * upX p h r j) 44 ∧ mulH (upB p h j i) (upX p h r j) 44 = false := by
    unfold mulV mulH
    rw [if_neg (by decide), satV_sb s1, satV_sb s2, show (44 : Int).toNat = 44 from rfl, satV_sb s3, satH_sb s1, satH_sb s2, satH_sb s3]
    exact ⟨rfl, by decide⟩
  unfold upU upUH addV addH
  rw [e.1, e.2, satV_sb s4, satV_sb s3, satV_sb s5, satH_sb s4, satH_sb s3, satH_sb s5]
  exact ⟨rfl, rfl⟩
end
end Go.Proofs.Ytkllgphhfkoknaa
/- bierman's update: the covariance and what was learnt, together, stay what they were (plain law of BiermanClose, 3). No program beyond the numbers' names. -/
namespace Go.Proofs.Ytkllgphhfkoknaa
/-- The factors behind the update. -/
def bcU (p h : Nat → Int) (r : Int) (i k : Nat) : Int := if i = k then 1073741824 else if i < k then upU p h r k i else 0
def bcT (p : Nat → Int) (i j : Nat) : Nat → Int := sg (fun k => uV p i k * uV p j k * p (276 + k))
def bcX (p h : Nat → Int) (r : Int) (i j : Nat) : Nat → Int := sg (fun k => bcU p h r i k * bcU p h r j k * upD p h r k)
section
variable {p h : Nat → Int} {r : Int} (C : BcH p h r)
include C
/-- One stage of a gain's number. -/
theorem BcH.e6 {i j : Nat} (hj : j < 24) : ab (1073741824 * upB p h (j + 1) i - 1073741824 * upB p h j i - uV p i j * bkV p h j) ≤ 536870912 := by
  by_cases h1 : i < j
  · rw [(C.bs hj h1).1]
    have e := rsh_err (uV p i j * bkV p h j)
    exact le_ab (by omega)
  · by_cases h2 : i = j
    · subst h2
      have e : upB p h (i + 1) i = bkV p h i := by simp only [upB, if_true]
      rw [e, (C.b i (by omega) i).2 (Nat.le_refl _), uV_self]
      exact le_ab (by omega)
    · rw [(C.b j (by omega) i).2 (by omega), (C.b (j + 1) (by omega) i).2 (by omega), uV_low (by omega), Int.zero_mul]
      decide
/-- .. of the factors. -/
theorem BcH.eta {i j : Nat} (hj : j < 24) : 2 * ab (bkA p h r j * bcU p h r i j - bkA p h r j * uV p i j + upB p h j i * bkF p h j) ≤ 7 * bkA p h r j := by
  have a := C.a2 (j := j) (by omega)
  unfold bcU
  by_cases h2 : i = j
  · subst h2
    rw [if_pos rfl, (C.b i (by omega) i).2 (Nat.le_refl _), uV_self, Int.zero_mul]
    have : ab (bkA p h r i * 1073741824 - bkA p h r i * 1073741824 + 0) ≤ 0 := le_ab (by omega)
    omega
  · rw [if_neg h2]
    by_cases h1 : i < j
    · rw [if_pos h1, (C.U hj h1).1]
      have x := (C.x hj).1
      have e2 := rdivV (bkF p h j * 17592186044416) (show 0 < bkA p h r j by omega)
      have b := C.b2 (j := j) (by omega) i
      have e3 := rdivV (upB p h j i * upX p h r j) (d := 17592186044416) (by decide)
      have er : rsh (upB p h j i * upX p h r j) 44 = rdiv (upB p h j i * upX p h r j) 17592186044416 := by
        unfold rsh; rw [show (2 : Int) ^ 44 = 17592186044416 from by decide]
      rw [er]
      obtain ⟨q, hq⟩ : ∃ q, rdiv (bkF p h j * 17592186044416) (bkA p h r j) = q := ⟨_, rfl⟩
      rw [hq] at e2 x
      rw [x] at e3 ⊢
      obtain ⟨g, hg⟩ : ∃ y, rdiv (upB p h j i * -q) 17592186044416 = y := ⟨_, rfl⟩
      rw [hg] at e3 ⊢
      obtain ⟨A, hA⟩ : ∃ q, bkA p h r j = q := ⟨_, rfl⟩
      obtain ⟨B, hB⟩ : ∃ q, upB p h j i = q := ⟨_, rfl⟩
      obtain ⟨F, hF⟩ : ∃ q, bkF p h j = q := ⟨_, rfl⟩
      obtain ⟨u, hu⟩ : ∃ q, uV p i j = q := ⟨_, rfl⟩
      rw [hA] at a e2 ⊢
      rw [hB] at b e3 ⊢
      rw [hF] at e2 ⊢
      rw [hu]
      have t1 : ab (B * (2 * (A * q - F * 17592186044416))) ≤ 104200000000000 * A := ab_mul_le b (by rw [ab_mul, show ab 2 = 2 from rfl]; exact e2)
      have t2 : ab (A * (2 * (17592186044416 * g - B * -q))) ≤ A * 17592186044416 := ab_mul_le (le_ab (by omega)) (by rw [ab_mul, show ab 2 = 2 from rfl]; exact e3)
      have e : 2 * (17592186044416 * (A * (u + g) - A * u + B * F)) = A * (2 * (17592186044416 * g - B * -q)) - B * (2 * (A * q - F * 17592186044416)) := by grind
      have t3 := ab_sub (A * (2 * (17592186044416 * g - B * -q))) (B * (2 * (A * q - F * 17592186044416)))
      rw [← e] at t3
      obtain ⟨z, hz⟩ : ∃ z, A * (u + g) - A * u + B * F = z := ⟨_, rfl⟩
      rw [hz] at t3 ⊢
      have t4 : ab (2 * (17592186044416 * z)) = 35184372088832 * ab z := by rw [ab_mul, ab_mul]; show 2 * (17592186044416 * ab z) = _; omega
      omega
    · rw [if_neg h1, (C.b j (by omega) i).2 (by omega), uV_low (by omega), Int.zero_mul]
      have : ab (bkA p h r j * 0 - bkA p h r j * 0 + 0) ≤ 0 := le_ab (by omega)
      omega
/-- The variance of what is learnt is at least .. -/
theorem BcH.vv {j : Nat} (hj : j < 24) : ab (1073741824 * bkV p h j - p (276 + j) * bkF p h j) ≤ 536870912 ∧ ab (1073741824 * bkA p h r (j + 1) - 1073741824 * bkA p h r j - bkF p h j * bkV p h j) ≤ 536870912 ∧
    bkV p h j * bkV p h j ≤ p (276 + j) * bkA p h r (j + 1) := by
  have v := C.v hj
  have a := C.a2 (j := j) (by omega)
  have s := (C.as hj).1
  have d := C.d j hj
  have e4 := rsh_err (p (276 + j) * bkF p h j)
  have e5 := rsh_err (bkF p h j * bkV p h j)
  rw [← v.1] at e4
  have e5' : ab (1073741824 * bkA p h r (j + 1) - 1073741824 * bkA p h r j - bkF p h j * bkV p h j) ≤ 536870912 := by
    rw [s]; exact le_ab (by omega)
  have e4' : ab (1073741824 * bkV p h j - p (276 + j) * bkF p h j) ≤ 536870912 := le_ab (by omega)
  refine ⟨e4', e5', ?_⟩
  obtain ⟨V, hV⟩ : ∃ q, bkV p h j = q := ⟨_, rfl⟩
  obtain ⟨F, hF⟩ : ∃ q, bkF p h j = q := ⟨_, rfl⟩
  obtain ⟨A, hA⟩ : ∃ q, bkA p h r j = q := ⟨_, rfl⟩
  obtain ⟨B, hB⟩ : ∃ q, bkA p h r (j + 1) = q := ⟨_, rfl⟩
  obtain ⟨D, hD⟩ : ∃ q, p (276 + j) = q := ⟨_, rfl⟩
  rw [hV, hD, hF] at e4'
  rw [hA, hB, hF, hV] at e5'
  rw [hV] at v
  rw [hA] at a
  rw [hD] at d
  rw [hV, hD, hB]
  obtain ⟨x, hx⟩ : ∃ x, 1073741824 * V - D * F = x := ⟨_, rfl⟩
  obtain ⟨y, hy⟩ : ∃ x, 1073741824 * B - 1073741824 * A - F * V = x := ⟨_, rfl⟩
  rw [hx] at e4'
  rw [hy] at e5'
  have e : 1073741824 * (V * V) = 1073741824 * (D * B) - D * (1073741824 * A + y) + x * V := by
    rw [← hx, ← hy]; grind
  have t1 := ab_mul_le e4' v.2.2
  have t2 := ab_le t1
  have t3 : 17179869184 * (1073741824 * 17179869184 - 536870912) ≤ D * (1073741824 * A + y) := Int.mul_le_mul d.1 (by have := ab_le e5'; omega) (by decide) (by omega)
  omega
theorem BcH.t_own {i : Nat} : ∀ m, m ≤ 24 → 0 ≤ bcT p i i m ∧ bcT p i i m ≤ m * 635064000000000000000000000000 + (if i < m then 9600000000000000000000000000000 else 0)
  | 0, _ => by unfold bcT; simp [sg]
  | m + 1, hm => by
    have ih := BcH.t_own (i := i) m (by omega)
    have b := C.uv (a := i) (k := m) (by omega)
    have d := C.d m (by omega)
    have sq : uV p i m * uV p i m = ab (uV p i m) * ab (uV p i m) := (ab_sq _).symm
    have n0 : 0 ≤ uV p i m * uV p i m * p (276 + m) := Int.mul_nonneg (sq_nn _) (by omega)
    unfold bcT at ih ⊢
    unfold sg
    rw [Int.natCast_add]
    by_cases h2 : i = m
    · rw [if_pos h2] at b
      have m1 := Int.mul_le_mul b b (ab_bd _).1 (by decide)
      have m2 := Int.mul_le_mul m1 d.2 (by omega) (by decide)
      rw [← sq] at m2
      rw [if_neg (by omega)] at ih
      rw [if_pos (by omega)]
      omega
    · rw [if_neg h2] at b
      have m1 := Int.mul_le_mul b b (ab_bd _).1 (by decide)
      have m2 := Int.mul_le_mul m1 d.2 (by omega) (by decide)
      rw [← sq] at m2
      by_cases h3 : i < m
      · rw [if_pos h3] at ih
        rw [if_pos (by omega)]
        omega
      · rw [if_neg h3] at ih
        rw [if_neg (by omega)]
        omega
theorem BcH.x_nn {i : Nat} : ∀ m, m ≤ 24 → 0 ≤ bcX p h r i i m
  | 0, _ => by unfold bcX; simp [sg]
  | m + 1, hm => by
    have ih := BcH.x_nn (i := i) m (by omega)
    have d := C.D (j := m) (by omega)
    have n0 : 0 ≤ bcU p h r i m * bcU p h r i m * upD p h r m := Int.mul_nonneg (sq_nn _) (by omega)
    unfold bcX at ih ⊢
    unfold sg
    omega
omit C in
/-- What is left, together with what was learnt. -/
def BcJ (p h : Nat → Int) (r : Int) (m : Nat) : Prop := ∀ i j, i < 24 → j < 24 →
  ab (bkA p h r m * (bcT p i j m - bcX p h r i j m) - 1152921504606846976 * (upB p h m i * upB p h m j)) ≤ bkA p h r m * (m * 230584300921369395200000)
theorem BcH.small {m i : Nat} (J : BcJ p h r m) (hm : m ≤ 24) (hi : i < 24) : upB p h m i * upB p h m i ≤ 22000000000000 * bkA p h r m := by
  have j := ab_le (J i i hi hi)
  have a := C.a2 hm
  have t := C.t_own (i := i) m hm
  have x := C.x_nn (i := i) m hm
  have hb : (m : Int) ≤ 24 := by omega
  have t2 : bcT p i i m - bcX p h r i i m ≤ 24841536000000000000000000000000 := by
    have := t.2
    split at this <;> omega
  have m1 := Int.mul_le_mul_of_nonneg_left t2 (show 0 ≤ bkA p h r m by omega)
  have m2 := Int.mul_le_mul_of_nonneg_left (show (m : Int) * 230584300921369395200000 ≤ 24 * 230584300921369395200000 by omega) (show 0 ≤ bkA p h r m by omega)
  omega
theorem BcH.u37 {m i : Nat} (J : BcJ p h r m) (hm : m ≤ 24) (hi : i < 24) : ab (upB p h m i) ≤ 37 * bkA p h r m := by
  have s := C.small J hm hi
  have a := C.a2 hm
  refine abw (by omega) (by decide) (Int.le_trans s ?_)
  have := Int.mul_le_mul_of_nonneg_left a.1 (show 0 ≤ bkA p h r m by omega)
  omega
theorem BcH.u7 {j i : Nat} (J : BcJ p h r j) (hj : j < 24) (hi : i < 24) : ab (bcU p h r i j) ≤ 70000000000 := by
  have b := C.u37 J (by omega) hi
  have a := C.a2 (j := j) (by omega)
  have n := C.eta (i := i) hj
  have f := (C.f hj).2.2
  have u := C.uv1 (a := i) hj
  obtain ⟨A, hA⟩ : ∃ q, bkA p h r j = q := ⟨_, rfl⟩
  obtain ⟨B, hB⟩ : ∃ q, upB p h j i = q := ⟨_, rfl⟩
  obtain ⟨F, hF⟩ : ∃ q, bkF p h j = q := ⟨_, rfl⟩
  obtain ⟨x, hx⟩ : ∃ q, uV p i j = q := ⟨_, rfl⟩
  obtain ⟨y, hy⟩ : ∃ q, bcU p h r i j = q := ⟨_, rfl⟩
  rw [hA, hB] at b
  rw [hA] at a
  rw [hA, hB, hF, hx, hy] at n
  rw [hF] at f
  rw [hx] at u
  rw [hy]
  have t1 : ab (A * x) ≤ A * 1073741824 := ab_mul_le (le_ab (by omega)) u
  have t2 : ab (B * F) ≤ 37 * A * 1811939328 := ab_mul_le b f
  have t3 : ab (A * y) ≤ A * 70000000000 := by
    have q1 := ab_bd (A * x)
    have q2 := ab_bd (B * F)
    have q3 := ab_bd (A * y - A * x + B * F)
    refine le_ab ?_
    omega
  rw [ab_mul, show ab A = A by unfold ab; omega] at t3
  exact Int.le_of_mul_le_mul_left t3 (by omega)
theorem BcH.step {m : Nat} (J : BcJ p h r m) (hm : m < 24) : BcJ p h r (m + 1) := by
  intro i j hi hj
  have a := C.a2 (j := m) (by omega)
  have up := (C.as hm).2.2
  have d := C.d m hm
  have D := C.D hm
  have e1 := rdivV (p (276 + m) * bkA p h r m) (show 0 < bkA p h r (m + 1) by omega)
  rw [← D.1] at e1
  have V := C.vv hm
  have jj := J i j hi hj
  have si := C.small J (by omega) hi
  have sj := C.small J (by omega) hj
  have bd := bc_bound (a := bkA p h r m) (ap := bkA p h r (m + 1)) (D := p (276 + m)) (f := bkF p h m) (v := bkV p h m) (ui := uV p i m) (uj := uV p j m) (bi := upB p h m i) (bj := upB p h m j)
    (ui' := bcU p h r i m) (uj' := bcU p h r j m) (e1 := bkA p h r (m + 1) * upD p h r m - p (276 + m) * bkA p h r m)
    (ηi := bkA p h r m * bcU p h r i m - bkA p h r m * uV p i m + upB p h m i * bkF p h m) (ηj := bkA p h r m * bcU p h r j m - bkA p h r m * uV p j m + upB p h m j * bkF p h m)
    (e4 := 1073741824 * bkV p h m - p (276 + m) * bkF p h m) (e5 := 1073741824 * bkA p h r (m + 1) - 1073741824 * bkA p h r m - bkF p h m * bkV p h m)
    (e6i := 1073741824 * upB p h (m + 1) i - 1073741824 * upB p h m i - uV p i m * bkV p h m) (e6j := 1073741824 * upB p h (m + 1) j - 1073741824 * upB p h m j - uV p j m * bkV p h m)
    a.1 up ⟨by omega, d.2⟩ (C.f hm).2.2 (C.v hm).2.2 (C.uv1 hm) (C.uv1 hm) (C.b2 (by omega) i) (C.b2 (by omega) j) si sj V.2.2 (by omega) e1 (C.eta hm) (C.eta hm) V.1 V.2.1 (C.e6 hm) (C.e6 hm) (C.u7 J hm hi) (C.u7 J hm hj)
  rw [← bc_id 1073741824 (bkA p h r m) (bkA p h r (m + 1)) (p (276 + m)) (bkF p h m) (bkV p h m) (uV p i m) (uV p j m) (upB p h m i) (upB p h m j) (bcU p h r i m) (bcU p h r j m) (upD p h r m) (upB p h (m + 1) i) (upB p h (m + 1) j) _ _ _ _ _ _ _
    (by omega) (by omega) (by omega) (by omega) (by omega) (by omega) (by omega)] at bd
  have hT : bcT p i j (m + 1) = bcT p i j m + uV p i m * uV p j m * p (276 + m) := rfl
  have hX : bcX p h r i j (m + 1) = bcX p h r i j m + bcU p h r i m * bcU p h r j m * upD p h r m := rfl
  rw [hT, hX, Int.natCast_add]
  generalize bkA p h r m = A at *
  generalize bkA p h r (m + 1) = B at *
  generalize p (276 + m) = d0 at *
  generalize uV p i m = ui at *
  generalize uV p j m = uj at *
  generalize bcU p h r i m = vi at *
  generalize bcU p h r j m = vj at *
  generalize upD p h r m = d' at *
  generalize upB p h m i = bi at *
  generalize upB p h m j = bj at *
  generalize upB p h (m + 1) i = ci at *
  generalize upB p h (m + 1) j = cj at *
  generalize bcT p i j m = T at *
  generalize bcX p h r i j m = X at *
  obtain ⟨E, hE⟩ : ∃ E, B * (1073741824 * 1073741824 * (bi * bj)) + A * B * (d0 * (ui * uj)) - A * B * (vi * vj * d') - A * (1073741824 * 1073741824 * (ci * cj)) = E := ⟨_, rfl⟩
  rw [hE, ab_mul, show ab 1073741824 = 1073741824 from rfl] at bd
  have bd2 : ab E ≤ 230584300921369395200000 * (A * B) := by omega
  have e : A * (B * (T + ui * uj * d0 - (X + vi * vj * d')) - 1152921504606846976 * (ci * cj)) = B * (A * (T - X) - 1152921504606846976 * (bi * bj)) + E := by
    rw [← hE]; grind
  have t1 : ab (B * (A * (T - X) - 1152921504606846976 * (bi * bj))) ≤ B * (A * (m * 230584300921369395200000)) := ab_mul_le (le_ab (by omega)) jj
  have t2 := ab_add (B * (A * (T - X) - 1152921504606846976 * (bi * bj))) E
  rw [← e, ab_mul, show ab A = A by unfold ab; omega] at t2
  have e2 : A * (B * (((m : Int) + ((1 : Nat) : Int)) * 230584300921369395200000)) = B * (A * (m * 230584300921369395200000)) + 230584300921369395200000 * (A * B) := by
    show A * (B * (((m : Int) + 1) * 230584300921369395200000)) = _
    grind
  refine Int.le_of_mul_le_mul_left (a := A) ?_ (by omega)
  rw [e2]
  omega
theorem BcH.all : ∀ m, m ≤ 24 → BcJ p h r m
  | 0, _ => fun i j _ _ => by
    unfold bcT bcX
    simp only [sg, upB]
    have a := C.a2 (j := 0) (by omega)
    show ab (bkA p h r 0 * (0 - 0) - 1152921504606846976 * (0 * 0)) ≤ _
    have : ab (bkA p h r 0 * (0 - 0) - 1152921504606846976 * (0 * 0)) ≤ 0 := le_ab (by omega)
    have e : bkA p h r 0 * (((0 : Nat) : Int) * 230584300921369395200000) = 0 := by simp
    omega
  | m + 1, hm => C.step (BcH.all m (by omega)) (by omega)
end
end Go.Proofs.Ytkllgphhfkoknaa
/- The covariance that is carried on is F P F' + Q, within a little: as the law reckons it (plain law of ThorntonClose). No program beyond the numbers' names. -/
namespace Go.Proofs.Ytkllgphhfkoknaa
section
variable {p F q : Nat → Int} (C : ClH p F q)
include C
theorem ClH.pp_bd (a b : Nat) : ab (PP p a b) ≤ 243864361133750000000000000000000 := by
  have h := sg_bd (x := fun k => uV p a k * uV p b k) (y := fun k => p (276 + k)) (m := 1152921504606846976) (n := 24) fun k hk => Int.le_trans (ab_mul_le (C.uv1 hk) (C.uv1 hk)) (by decide)
  refine Int.le_trans h ?_
  have h := sg_le (f := fun k => ab (p (276 + k))) (g := fun _ => 8813272891391) (n := 24) fun k hk => by
    have := C.d k hk
    exact le_ab (by omega)
  rw [sg_const] at h
  omega
theorem ClH.at_p {a b : Nat} (ha : a < 24) (hb : b < 24) : ab (1152921504606846976 * atV p a b - PP p a b) ≤ 14411518807585587200 ∧ atH p a b = false ∧ ab (atV p a b) ≤ 212000000000000 := by
  have h := at_pp (f := p) ha hb (fun a k _ hk => C.uv1 hk) (by decide) (fun k hk => by have := C.d k hk; omega) (Int.le_trans (C.pp_bd a b) (by decide))
  have h2 := C.pp_bd a b
  have c := ab_bd (1152921504606846976 * atV p a b - PP p a b)
  have d := ab_bd (PP p a b)
  exact ⟨by omega, h.2, le_ab (by omega)⟩
omit C in
theorem sg_bd2 {x y : Nat → Int} {m s : Int} {n : Nat} (hm : 0 ≤ m) (h : ∀ k, k < n → ab (x k) ≤ m) (hs : sg (fun k => ab (y k)) n ≤ s) : ab (sg (fun k => x k * y k) n) ≤ m * s :=
  Int.le_trans (sg_bd h) (Int.mul_le_mul_of_nonneg_left hs hm)
end
end Go.Proofs.Ytkllgphhfkoknaa
/- block's numbers: states begun anew are apart from all others, whatever the factors are. No program. -/
namespace Go.Proofs.Ytkllgphhfkoknaa
theorem pl_inj2 {i j i' j' : Nat} (h : i < j) (h' : i' < j') (hj : j < 24) (hj' : j' < 24) (e : pl i j = pl i' j') : i = i' ∧ j = j' := by
  have key : ∀ j : Fin 24, ∀ j' : Fin 24, j.val < j'.val → j.val * (j.val - 1) / 2 + j.val ≤ j'.val * (j'.val - 1) / 2 := by decide
  unfold pl at e
  rcases Nat.lt_trichotomy j j' with h1 | h1 | h1
  · have := key ⟨j, hj⟩ ⟨j', hj'⟩ h1; simp only at this; omega
  · subst h1; omega
  · have := key ⟨j', hj'⟩ ⟨j, hj⟩ h1; simp only at this; omega
end Go.Proofs.Ytkllgphhfkoknaa
