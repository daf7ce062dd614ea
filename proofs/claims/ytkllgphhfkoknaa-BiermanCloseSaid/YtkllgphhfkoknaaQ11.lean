/- Contracts of the program's functions and plain laws, part 11: they hold for all arguments. -/
import Derived.Test.YtkllgphhfkoknaaQ10
import Derived.Test.YtkllgphhfkoknaaQ09
import Derived.WalkKit
import Derived.Test.YtkllgphhfkoknaaQ05
import Derived.Test.YtkllgphhfkoknaaQ04
import Derived.Test.YtkllgphhfkoknaaQ03
import Derived.OpenShut
import Derived.ProofKit
import Derived.Carry
/- What bierman's update makes is P - P h' h P / s, within a little (plain law of BiermanClose, 4). No program beyond the numbers' names. -/
namespace Go.Proofs.Ytkllgphhfkoknaa
theorem upOm_U (O p h : Nat → Int) (r : Int) {j : Nat} (hj : j < 24) : ∀ m, m ≤ j → ∀ i' j', i' < j' → j' < 24 → upOm O p h r j m (pl i' j') = if j' = j ∧ i' < m then upU p h r j i' else O (pl i' j')
  | 0, _, i', j', h, h' => by
    simp only [upOm, upd]
    rw [if_neg (by have := pl_lt h h'; omega), if_neg (by omega)]
  | m + 1, hm, i', j', h1, h' => by
    simp only [upOm, upd]
    by_cases e1 : pl i' j' = pl m j
    · obtain ⟨rfl, rfl⟩ := pl_inj2 h1 (by omega) h' hj e1
      rw [if_pos rfl, if_pos ⟨rfl, by omega⟩]
    · rw [if_neg e1, upOm_U O p h r hj m (by omega) i' j' h1 h']
      by_cases e2 : j' = j ∧ i' < m
      · rw [if_pos e2, if_pos ⟨e2.1, by omega⟩]
      · rw [if_neg e2, if_neg]
        intro ⟨e3, e4⟩
        subst e3
        have : i' = m := by omega
        subst this
        exact e1 rfl
theorem upO_U (p h : Nat → Int) (r : Int) : ∀ j, j ≤ 24 → ∀ i' j', i' < j' → j' < 24 → upO p h r j (pl i' j') = if j' < j then upU p h r j' i' else p (pl i' j')
  | 0, _, i', j', _, _ => by rw [if_neg (by omega)]; rfl
  | j + 1, hj, i', j', h1, h' => by
    simp only [upO]
    rw [upOm_U _ p h r (by omega) j (Nat.le_refl _) i' j' h1 h', upO_U p h r j (by omega) i' j' h1 h']
    by_cases e : j' = j
    · subst e; rw [if_pos ⟨rfl, h1⟩, if_pos (by omega)]
    · rw [if_neg (by omega)]
      split <;> split <;> first | rfl | omega
theorem sg_head {g : Nat → Int} {m : Nat} : ∀ {n : Nat}, m ≤ n → (∀ p, m ≤ p → p < n → g p = 0) → sg g n = sg g m
  | 0, h, _ => by rw [show m = 0 by omega]
  | n + 1, h, h0 => by
    by_cases e : m = n + 1
    · rw [e]
    · rw [← sg_head (n := n) (by omega) fun p h1 h2 => h0 p h1 (by omega)]
      show sg g n + g n = sg g n
      rw [h0 n (by omega) (by omega)]; omega
theorem at_pp2 {f : Nat → Int} {i j : Nat} {B : Int} (hi : i < 24) (hj : j < 24) (hB : ∀ a p, a < 24 → p < 24 → ab (uV f a p) ≤ B) (hB2 : B ≤ 70000000000) (hd : ∀ p, p < 24 → 0 ≤ f (276 + p) ∧ f (276 + p) ≤ 43980465190000)
    (hs : ab (PP f i j) ≤ 1150000000000000000000000000000000) : ab (1152921504606846976 * atV f i j - PP f i j) ≤ 12884901888 * B + 576460752303423488 ∧ atH f i j = false := by
  have hm : max i j < 24 := by omega
  have b0 : 0 ≤ B := Int.le_trans (ab_bd _).1 (hB 0 0 (by decide) (by decide))
  have e1 : PP f i j = sg (fun q => atU f i (max i j) q * uV f j (max i j + q) * f (276 + (max i j + q))) (24 - max i j) := by
    unfold PP
    rw [sg_tail (m := max i j) (by omega) fun p hp => ?_]
    · rfl
    · by_cases h : p < i
      · rw [uV_low h, Int.zero_mul, Int.zero_mul]
      · rw [uV_low (show p < j by omega), Int.mul_zero, Int.zero_mul]
  have hx : ∀ q, q < 24 - max i j → SB (atU f i (max i j) q) ∧ SB (uV f j (max i j + q)) ∧ SB (f (276 + (max i j + q))) ∧ SB (rsh (uV f j (max i j + q) * f (276 + (max i j + q))) 30) := by
    intro q hq
    have h1 := hB i (max i j + q) hi (by omega)
    have h2 := hB j (max i j + q) hj (by omega)
    have h3 := hd (max i j + q) (by omega)
    refine ⟨sb_ab h1 (by omega), sb_ab h2 (by omega), by unfold SB; omega, sb_ab (rsh_ab (m := 2868000000000000) ?_) (by decide)⟩
    rw [ab_mul]
    exact Int.le_trans (Int.mul_le_mul (Int.le_trans h2 hB2) (show ab (f (276 + (max i j + q))) ≤ 43980465190000 from le_ab (by omega)) (ab_bd _).1 (by decide)) (by decide)
  have h := at_err (T := 24 * B) (fun q hq => hB i (max i j + q) hi (by omega)) hx (Int.mul_le_mul_of_nonneg_right (by omega) b0) (by
    have : sg (fun q => uV f i (max i j + q) * uV f j (max i j + q) * f (276 + (max i j + q))) (24 - max i j) = PP f i j := e1.symm
    rw [this]; omega)
  have e2 : sg (fun q => uV f i (max i j + q) * uV f j (max i j + q) * f (276 + (max i j + q))) (24 - max i j) = PP f i j := e1.symm
  rw [e2] at h
  refine ⟨?_, ?_⟩
  · have : atV f i j = dotV 30 (fun q => uV f i (max i j + q)) (fun q => mulV (uV f j (max i j + q)) (f (276 + (max i j + q))) 30) (24 - max i j) := rfl
    rw [this]
    omega
  · unfold atH
    have : dotH 30 (atU f i (max i j)) (atX f j (max i j)) (24 - max i j) = false := h.2.1
    rw [this, cl_orB (p := atB f j (max i j)) fun q hq => h.2.2 q hq]; rfl
/-- P times the row, exactly. -/
def bcW (p h : Nat → Int) (i : Nat) : Int := sg (fun k => PP p i k * h k) 24
/-- .. as the law reckons it. -/
def bcu (p h : Nat → Int) (i : Nat) : Int := dotV 30 (fun k => atV p i k) h 24
section
variable {p h : Nat → Int} {r : Int} (C : BcH p h r)
include C
omit C in
theorem bc_out_u {i k : Nat} (hk : k < 24) : uV (upO p h r 24) i k = bcU p h r i k := by
  unfold bcU
  by_cases e : i = k
  · rw [if_pos e, e, uV_self]
  · rw [if_neg e]
    by_cases e2 : i < k
    · rw [if_pos e2, uV_up e2, upO_U p h r 24 (Nat.le_refl _) i k e2 hk, if_pos hk]
    · rw [if_neg e2, uV_low (by omega)]
theorem BcH.out_d {k : Nat} (hk : k < 24) : upO p h r 24 (276 + k) = upD p h r k := by
  rw [(upO_at (p := p) (h := h) (r := r) (fun x hx => by have := ab_le (C.u x hx); omega) 24 (Nat.le_refl _)).1 k hk, if_pos hk]
theorem BcH.out_pp (i j : Nat) : PP (upO p h r 24) i j = bcX p h r i j 24 := sg_congr fun k hk => by rw [bc_out_u hk, bc_out_u hk, C.out_d hk]
theorem BcH.pp_bd (a b : Nat) : ab (PP p a b) ≤ 243864361133750000000000000000000 := by
  have h := sg_bd (x := fun k => uV p a k * uV p b k) (y := fun k => p (276 + k)) (m := 1152921504606846976) (n := 24) fun k hk => Int.le_trans (ab_mul_le (C.uv1 hk) (C.uv1 hk)) (by decide)
  refine Int.le_trans h ?_
  have h := sg_le (f := fun k => ab (p (276 + k))) (g := fun _ => 8813272891391) (n := 24) fun k hk => by
    have := C.d k hk
    exact le_ab (by omega)
  rw [sg_const] at h
  omega
theorem BcH.at_p {a b : Nat} (ha : a < 24) (hb : b < 24) : ab (1152921504606846976 * atV p a b - PP p a b) ≤ 14411518807585587200 ∧ atH p a b = false ∧ ab (atV p a b) ≤ 212000000000000 := by
  have h := at_pp (f := p) ha hb (fun a k _ hk => C.uv1 hk) (by decide) (fun k hk => by have := C.d k hk; omega) (Int.le_trans (C.pp_bd a b) (by decide))
  have h2 := C.pp_bd a b
  have c := ab_bd (1152921504606846976 * atV p a b - PP p a b)
  have d := ab_bd (PP p a b)
  exact ⟨by omega, h.2, le_ab (by omega)⟩
theorem BcH.u_sum (i : Nat) : sg (fun m => ab (uV p i m)) 24 ≤ 7247757289 := by
  by_cases hi : i < 24
  · have h := sg_le (f := fun m => ab (uV p i m)) (g := fun m => 268435455 + (if m = i then 805306369 else 0)) (n := 24) fun m hm => by
      have := C.uv (a := i) hm
      split at this <;> split <;> omega
    rw [sg_add, sg_const, sg_only hi fun m _ hm => if_neg hm, if_pos rfl] at h
    omega
  · have h := sg_le (f := fun m => ab (uV p i m)) (g := fun _ => 268435455) (n := 24) fun m hm => C.uvl hm (by omega)
    rw [sg_const] at h
    omega
theorem BcH.b_sum (i : Nat) : ∀ m, m ≤ 24 → ab (1073741824 * upB p h m i - sg (fun k => bkV p h k * uV p i k) m) ≤ m * 536870912
  | 0, _ => by simp only [sg, upB]; decide
  | m + 1, hm => by
    have ih := BcH.b_sum i m (by omega)
    have e := C.e6 (i := i) (j := m) (by omega)
    rw [Int.natCast_add]
    show ab (1073741824 * upB p h (m + 1) i - (sg (fun k => bkV p h k * uV p i k) m + bkV p h m * uV p i m)) ≤ _
    rw [Int.mul_comm (bkV p h m)]
    have a := ab_add (1073741824 * upB p h m i - sg (fun k => bkV p h k * uV p i k) m) (1073741824 * upB p h (m + 1) i - 1073741824 * upB p h m i - uV p i m * bkV p h m)
    have e2 : 1073741824 * upB p h (m + 1) i - (sg (fun k => bkV p h k * uV p i k) m + uV p i m * bkV p h m) = 1073741824 * upB p h m i - sg (fun k => bkV p h k * uV p i k) m + (1073741824 * upB p h (m + 1) i - 1073741824 * upB p h m i - uV p i m * bkV p h m) := by omega
    rw [e2]
    omega
omit C in
theorem bc_w_sum (p h : Nat → Int) (i : Nat) : bcW p h i = sg (fun m => p (276 + m) * bcF p h m * uV p i m) 24 := by
  unfold bcW PP
  rw [show (fun k => sg (fun m => uV p i m * uV p k m * p (276 + m)) 24 * h k) = (fun k => sg (fun m => uV p i m * uV p k m * p (276 + m) * h k) 24) from funext fun k => (sg_mulr (h k) _ 24).symm, sg_swap (fun k m => uV p i m * uV p k m * p (276 + m) * h k) 24 24]
  refine sg_congr fun m hm => ?_
  have e : bcF p h m = sg (fun k => h k * uV p k m) 24 := by
    unfold bcF
    rw [sg_head (g := fun k => h k * uV p k m) (m := m + 1) (n := 24) (by omega) fun k h1 _ => by rw [uV_low (by omega), Int.mul_zero]]
    exact sg_congr fun k hk => by unfold colF; rw [if_pos (by omega)]
  rw [e, Int.mul_assoc, Int.mul_comm (sg _ _), ← Int.mul_assoc, ← sg_mul]
  exact sg_congr fun k _ => by grind
theorem BcH.b_near (i : Nat) : ab (1237940039285380274899124224 * upB p h 24 i - bcW p h i) ≤ 34400000000000000000000000000000 := by
  have a := C.b_sum i 24 (Nat.le_refl _)
  have b : ab (1152921504606846976 * sg (fun k => bkV p h k * uV p i k) 24 - bcW p h i) ≤ 536870912 * 8814346633215 * 7247757289 := by
    have e : 1152921504606846976 * sg (fun k => bkV p h k * uV p i k) 24 - bcW p h i = sg (fun k => (1152921504606846976 * bkV p h k - p (276 + k) * bcF p h k) * uV p i k) 24 := by
      have : sg (fun k => (1152921504606846976 * bkV p h k - p (276 + k) * bcF p h k) * uV p i k) 24 + bcW p h i = 1152921504606846976 * sg (fun k => bkV p h k * uV p i k) 24 := by
        rw [bc_w_sum p h i, ← sg_mul, ← sg_add]
        exact sg_congr fun k _ => by grind
      omega
    rw [e]
    refine Int.le_trans (sg_bd (m := 536870912 * 8814346633215) fun k hk => ?_) (Int.mul_le_mul_of_nonneg_left (C.u_sum i) (by decide))
    have v := (C.vv hk).1
    have f := rsh_two (bcF p h k)
    rw [← (C.f hk).1] at f
    have d := C.d k hk
    have e2 : 1152921504606846976 * bkV p h k - p (276 + k) * bcF p h k = 1073741824 * (1073741824 * bkV p h k - p (276 + k) * bkF p h k) + p (276 + k) * (1073741824 * bkF p h k - bcF p h k) := by grind
    rw [e2]
    have t := ab_add (1073741824 * (1073741824 * bkV p h k - p (276 + k) * bkF p h k)) (p (276 + k) * (1073741824 * bkF p h k - bcF p h k))
    have t1 := ab_mul_le (show ab 1073741824 ≤ 1073741824 by decide) v
    have t2 := ab_mul_le (show ab (p (276 + k)) ≤ 8813272891391 from le_ab (by omega)) (show ab (1073741824 * bkF p h k - bcF p h k) ≤ 536870912 by omega)
    omega
  have e3 : 1237940039285380274899124224 * upB p h 24 i - bcW p h i = 1152921504606846976 * (1073741824 * upB p h 24 i - sg (fun k => bkV p h k * uV p i k) 24) + (1152921504606846976 * sg (fun k => bkV p h k * uV p i k) 24 - bcW p h i) := by omega
  have t := ab_add (1152921504606846976 * (1073741824 * upB p h 24 i - sg (fun k => bkV p h k * uV p i k) 24)) (1152921504606846976 * sg (fun k => bkV p h k * uV p i k) 24 - bcW p h i)
  have t1 := ab_mul_le (show ab 1152921504606846976 ≤ 1152921504606846976 by decide) a
  rw [e3]
  omega
theorem BcH.u_near {i : Nat} (hi : i < 24) : ab (1237940039285380274899124224 * bcu p h i - bcW p h i) ≤ 94000000000000000000000000000 ∧ dotH 30 (fun k => atV p i k) h 24 = false := by
  have hs : sg (fun k => ab (h k)) 24 ≤ 24 * 268435455 := by
    have := sg_le (f := fun k => ab (h k)) (g := fun _ => 268435455) (n := 24) fun k hk => C.h k hk
    rw [sg_const] at this
    exact this
  have s1 := sg_bd2 (x := fun k => atV p i k) (y := h) (m := 212000000000000) (by decide) (fun b hb => (C.at_p hi hb).2.2) hs
  have r1 := rsh_ab (m := 1273000000000000) (Int.le_trans s1 (by decide))
  have dv := dotV_sg (A := fun b => atV p i b) (B := h) (n := 24) (fun b hb => ⟨sb_ab (C.at_p hi hb).2.2 (by decide), sb_ab (C.h b hb) (by decide)⟩) (sb_ab r1 (by decide))
  refine ⟨?_, dv.2⟩
  have e1 : bcu p h i = rsh (sg (fun b => atV p i b * h b) 24) 30 := dv.1
  rw [e1]
  have e2 : 1152921504606846976 * sg (fun b => atV p i b * h b) 24 = sg (fun b => (1152921504606846976 * atV p i b - PP p i b) * h b) 24 + bcW p h i := by
    unfold bcW
    rw [← sg_mul, ← sg_add]
    exact sg_congr fun b _ => by grind
  have s2 := sg_bd2 (y := h) (by decide) (fun b hb => (C.at_p hi hb).1) hs
  have r2 := rsh_two (sg (fun b => atV p i b * h b) 24)
  obtain ⟨X, hX⟩ : ∃ X, sg (fun b => atV p i b * h b) 24 = X := ⟨_, rfl⟩
  rw [hX] at e2 r2 ⊢
  have c := ab_bd (sg (fun b => (1152921504606846976 * atV p i b - PP p i b) * h b) 24)
  have d := ab_bd (1073741824 * rsh X 30 - X)
  exact le_ab (by omega)
theorem BcH.near {i : Nat} (hi : i < 24) : ab (bcu p h i - upB p h 24 i) ≤ 28000 ∧ ab (bcu p h i) ≤ 105000000000000 := by
  have a := C.b_near i
  have b := (C.u_near hi).1
  have c := C.b2 (Nat.le_refl 24) i
  have a' := ab_le a
  have b' := ab_le b
  have c' := ab_le c
  exact ⟨le_ab (by omega), le_ab (by omega)⟩
theorem BcH.out_at {i j : Nat} (hi : i < 24) (hj : j < 24) : ab (1152921504606846976 * atV (upO p h r 24) i j - bcX p h r i j 24) ≤ 12884901888 * 70000000000 + 576460752303423488 ∧ atH (upO p h r 24) i j = false ∧ ab (atV (upO p h r 24) i j) ≤ 300000000000000 := by
  have J := C.all 24 (Nat.le_refl _)
  have s := C.a2 (Nat.le_refl 24)
  have x : ab (bcX p h r i j 24) ≤ 300000000000000000000000000000000 := by
    have jj := J i j hi hj
    have t := C.pp_bd i j
    have et : PP p i j = bcT p i j 24 := rfl
    rw [et] at t
    have bb := ab_two (C.small J (Nat.le_refl _) hi) (C.small J (Nat.le_refl _) hj)
    obtain ⟨S, hS⟩ : ∃ q, bkA p h r 24 = q := ⟨_, rfl⟩
    obtain ⟨T, hT⟩ : ∃ q, bcT p i j 24 = q := ⟨_, rfl⟩
    obtain ⟨X, hX⟩ : ∃ q, bcX p h r i j 24 = q := ⟨_, rfl⟩
    obtain ⟨B, hB⟩ : ∃ q, upB p h 24 i * upB p h 24 j = q := ⟨_, rfl⟩
    rw [hS, hT, hX, hB] at jj
    rw [hS] at s bb
    rw [hB] at bb
    rw [hT] at t
    rw [hX]
    have q1 := ab_mul_le (show ab S ≤ S by unfold ab; omega) t
    have e : S * X = S * T - 1152921504606846976 * B - (S * (T - X) - 1152921504606846976 * B) := by grind
    have c1 := ab_le jj
    have c2 := ab_le bb
    have c3 := ab_le q1
    have q2 : ab (S * X) ≤ S * 300000000000000000000000000000000 := le_ab (by omega)
    rw [ab_mul, show ab S = S by unfold ab; omega] at q2
    exact Int.le_of_mul_le_mul_left q2 (by omega)
  have hh := at_pp2 (f := upO p h r 24) hi hj (B := 70000000000) (fun a k ha hk => by rw [bc_out_u hk]; exact C.u7 (C.all k (by omega)) hk ha) (by decide) (fun k hk => by have := C.D hk; rw [C.out_d hk]; omega) (by rw [C.out_pp]; exact Int.le_trans x (by decide))
  rw [C.out_pp] at hh
  have c := ab_bd (1152921504606846976 * atV (upO p h r 24) i j - bcX p h r i j 24)
  have d := ab_bd (bcX p h r i j 24)
  have hh1 := hh.1
  exact ⟨hh1, hh.2, le_ab (by omega)⟩
/-- The law, in numbers. -/
theorem BcH.law {i j : Nat} (hi : i < 24) (hj : j < 24) :
    ab (atV (upO p h r 24) i j - (atV p i j - rdiv (bcu p h i * bcu p h j) (bkA p h r 24))) ≤ 67108864 ∧ ab (rdiv (bcu p h i * bcu p h j) (bkA p h r 24)) ≤ 1000000000000000 ∧
    ab (rdiv (upB p h 24 i * 1073741824) (bkA p h r 24) - rdiv (bcu p h i * 1073741824) (bkA p h r 24)) ≤ 65536 ∧ ab (rdiv (upB p h 24 i * 1073741824) (bkA p h r 24)) ≤ 40000000000 ∧ ab (rdiv (bcu p h i * 1073741824) (bkA p h r 24)) ≤ 50000000000 := by
  have J := C.all 24 (Nat.le_refl _)
  have s := C.a2 (Nat.le_refl 24)
  have jj := J i j hi hj
  have ai := C.u37 J (Nat.le_refl _) hi
  have aj := C.u37 J (Nat.le_refl _) hj
  have ni := (C.near hi).1
  have nj := (C.near hj).1
  have oa := (C.out_at hi hj).1
  have pa := (C.at_p hi hj).1
  have et : PP p i j = bcT p i j 24 := rfl
  rw [et] at pa
  have bb := ab_two (C.small J (Nat.le_refl _) hi) (C.small J (Nat.le_refl _) hj)
  obtain ⟨S, hS⟩ : ∃ q, bkA p h r 24 = q := ⟨_, rfl⟩
  obtain ⟨T, hT⟩ : ∃ q, bcT p i j 24 = q := ⟨_, rfl⟩
  obtain ⟨X, hX⟩ : ∃ q, bcX p h r i j 24 = q := ⟨_, rfl⟩
  obtain ⟨x, hx⟩ : ∃ q, upB p h 24 i = q := ⟨_, rfl⟩
  obtain ⟨y, hy⟩ : ∃ q, upB p h 24 j = q := ⟨_, rfl⟩
  obtain ⟨u, hu⟩ : ∃ q, bcu p h i = q := ⟨_, rfl⟩
  obtain ⟨v, hv⟩ : ∃ q, bcu p h j = q := ⟨_, rfl⟩
  obtain ⟨O, hO⟩ : ∃ q, atV (upO p h r 24) i j = q := ⟨_, rfl⟩
  obtain ⟨P, hP⟩ : ∃ q, atV p i j = q := ⟨_, rfl⟩
  rw [hS, hT, hX, hx, hy] at jj
  rw [hS] at s ai aj bb
  rw [hx] at ai bb ni
  rw [hy] at aj bb nj
  rw [hu] at ni
  rw [hv] at nj
  rw [hO, hX] at oa
  rw [hP, hT] at pa
  rw [hS, hx, hu, hv, hO, hP]
  have h0 : 0 < S := by omega
  have e1 := rdivV (u * v) h0
  have e2 := rdivV (x * 1073741824) h0
  have e3 := rdivV (u * 1073741824) h0
  obtain ⟨Q, hQ⟩ : ∃ q, rdiv (u * v) S = q := ⟨_, rfl⟩
  obtain ⟨G, hG⟩ : ∃ q, rdiv (x * 1073741824) S = q := ⟨_, rfl⟩
  obtain ⟨H, hH⟩ : ∃ q, rdiv (u * 1073741824) S = q := ⟨_, rfl⟩
  rw [hQ] at e1
  rw [hG] at e2
  rw [hH] at e3
  rw [hQ, hG, hH]
  have aS : ab S = S := by unfold ab; omega
  -- the products
  have uv : ab (u * v - x * y) ≤ 2300000 * S := by
    have e : u * v - x * y = x * (v - y) + y * (u - x) + (u - x) * (v - y) := by grind
    have t1 := ab_mul_le ai nj
    have t2 := ab_mul_le aj ni
    have t3 := ab_mul_le ni nj
    have t4 := ab_add (x * (v - y) + y * (u - x)) ((u - x) * (v - y))
    have t5 := ab_add (x * (v - y)) (y * (u - x))
    rw [e]
    omega
  refine ⟨?_, ?_, ?_, ?_, ?_⟩
  · have e : S * (1152921504606846976 * (O - (P - Q))) = S * (1152921504606846976 * O - X) - S * (1152921504606846976 * P - T) - (S * (T - X) - 1152921504606846976 * (x * y)) + 1152921504606846976 * (u * v - x * y) + 1152921504606846976 * (S * Q - u * v) := by grind
    have t1 := ab_le (ab_mul_le (show ab S ≤ S by omega) oa)
    have t2 := ab_le (ab_mul_le (show ab S ≤ S by omega) pa)
    have t3 := ab_le jj
    have t4 := ab_le uv
    have t5 := ab_le (show ab (S * Q - u * v) ≤ S by have := (ab_bd (S * Q - u * v)).1; omega)
    have t6 : ab (S * (1152921504606846976 * (O - (P - Q)))) ≤ S * (1152921504606846976 * 67108864) := le_ab (by omega)
    rw [ab_mul, aS] at t6
    have t7 := Int.le_of_mul_le_mul_left t6 h0
    rw [ab_mul, show ab 1152921504606846976 = 1152921504606846976 from rfl] at t7
    omega
  · have t4 := ab_le uv
    have t5 := ab_le (show ab (S * Q - u * v) ≤ S by have := (ab_bd (S * Q - u * v)).1; omega)
    have t6 := ab_le bb
    have t7 : ab (S * Q) ≤ S * 1000000000000000 := le_ab (by omega)
    rw [ab_mul, aS] at t7
    exact Int.le_of_mul_le_mul_left t7 h0
  · have t1 := ab_le (show ab (S * G - x * 1073741824) ≤ S by have := (ab_bd (S * G - x * 1073741824)).1; omega)
    have t2 := ab_le (show ab (S * H - u * 1073741824) ≤ S by have := (ab_bd (S * H - u * 1073741824)).1; omega)
    have t3 := ab_le ni
    have e : S * (G - H) = S * G - S * H := Int.mul_sub _ _ _
    have t7 : ab (S * (G - H)) ≤ S * 65536 := le_ab (by omega)
    rw [ab_mul, aS] at t7
    exact Int.le_of_mul_le_mul_left t7 h0
  · have t1 := ab_le (show ab (S * G - x * 1073741824) ≤ S by have := (ab_bd (S * G - x * 1073741824)).1; omega)
    have t2 := ab_le ai
    have t7 : ab (S * G) ≤ S * 40000000000 := le_ab (by omega)
    rw [ab_mul, aS] at t7
    exact Int.le_of_mul_le_mul_left t7 h0
  · have t1 := ab_le (show ab (S * H - u * 1073741824) ≤ S by have := (ab_bd (S * H - u * 1073741824)).1; omega)
    have t2 := ab_le ai
    have t3 := ab_le ni
    have t7 : ab (S * H) ≤ S * 50000000000 := le_ab (by omega)
    rw [ab_mul, aS] at t7
    exact Int.le_of_mul_le_mul_left t7 h0
end
end Go.Proofs.Ytkllgphhfkoknaa
/- The numbers that the Close laws make of what is given; masks and remainders. No program beyond the numbers' names. -/
namespace Go.Proofs.Ytkllgphhfkoknaa
open Go
theorem andM (u : Int) {M : Nat} (hM : M ≤ 9000000000000000000) : 0 ≤ Go.bits .and .i64 u (M : Int) ∧ Go.bits .and .i64 u (M : Int) ≤ (M : Int) := by
  obtain ⟨n, hn, e⟩ : ∃ n : Nat, n ≤ M ∧ Go.bits .and .i64 u (M : Int) = Go.IntKind.i64.wrap (n : Int) := by
    refine ⟨(BitVec.ofInt 64 u &&& BitVec.ofInt 64 (M : Int)).toNat, ?_, rfl⟩
    rw [BitVec.toNat_and]
    refine Nat.le_trans Nat.and_le_right ?_
    rw [BitVec.toNat_ofInt]
    omega
  rw [e, Go.IntWalk.i64_in _ (by omega)]
  omega
theorem and43 (u : Int) : 0 ≤ Go.bits .and .i64 u 8796093022207 ∧ Go.bits .and .i64 u 8796093022207 ≤ 8796093022207 := andM u (M := 8796093022207) (by decide)
theorem tmod_ab (x : Int) {m : Int} (hm : 0 < m) : ab (x.tmod m) ≤ m - 1 := by
  have h : (x.tmod m).natAbs = x.natAbs % m.natAbs := Int.natAbs_tmod x m
  have h2 := Nat.mod_lt x.natAbs (show 0 < m.natAbs by omega)
  unfold ab
  rw [h]; omega
/-- U within a quarter; D from 2^34 to 2^44; the noise likewise; the matrix near One. -/
def clU (p : Nat → Int) (k : Nat) : Nat → Int := fun x => if x < k then (p x).tmod 268435456 else p x
def clD (p : Nat → Int) (k : Nat) : Nat → Int := fun x => if x < 276 then (p x).tmod 268435456 else if x - 276 < k then 17179869184 + Go.bits .and .i64 (p x) 8796093022207 else p x
theorem clD_start (p : Nat → Int) : ∀ x, x < 300 → clU p 276 x = clD p 0 x := fun x _ => by
  unfold clU clD
  by_cases h : x < 276
  · rw [if_pos h, if_pos h]
  · rw [if_neg h, if_neg h, if_neg (by omega)]
theorem clU_next (p : Nat → Int) (k : Nat) : ∀ x, upd (clU p k) k ((clU p k k).tmod 268435456) x = clU p (k + 1) x := fun x => by
  unfold upd clU
  rw [if_neg (show ¬ k < k by omega)]
  by_cases h : x = k
  · subst h; rw [if_pos rfl, if_pos (by omega)]
  · rw [if_neg h]
    by_cases h2 : x < k
    · rw [if_pos h2, if_pos (by omega)]
    · rw [if_neg h2, if_neg (by omega)]
theorem clD_at (p : Nat → Int) (k : Nat) : clD p k (276 + k) = p (276 + k) := by unfold clD; rw [if_neg (by omega), if_neg (by omega)]
theorem clD_next (p : Nat → Int) (k : Nat) : ∀ x, upd (clD p k) (276 + k) (17179869184 + Go.bits .and .i64 (p (276 + k)) 8796093022207) x = clD p (k + 1) x := fun x => by
  unfold upd clD
  by_cases h : x = 276 + k
  · subst h; rw [if_pos rfl, if_neg (by omega), if_pos (by omega)]
  · rw [if_neg h]
    by_cases h1 : x < 276
    · rw [if_pos h1, if_pos h1]
    · rw [if_neg h1, if_neg h1]
      by_cases h2 : x - 276 < k
      · rw [if_pos h2, if_pos (by omega)]
      · rw [if_neg h2, if_neg (by omega)]
end Go.Proofs.Ytkllgphhfkoknaa
/- The Close laws' numbers are within what the plain laws ask. No program beyond the numbers' names. -/
namespace Go.Proofs.Ytkllgphhfkoknaa
theorem clD_hyp (p : Nat → Int) : (∀ x, x < 276 → ab (clD p 24 x) ≤ 268435455) ∧ ∀ i, i < 24 → 17179869184 ≤ clD p 24 (276 + i) ∧ clD p 24 (276 + i) ≤ 8813272891391 := by
  refine ⟨fun x hx => ?_, fun i hi => ?_⟩
  · unfold clD; rw [if_pos hx]; exact tmod_ab _ (by decide)
  · unfold clD
    rw [if_neg (by omega), if_pos (by omega)]
    have := and43 (p (276 + i))
    omega
end Go.Proofs.Ytkllgphhfkoknaa
/- bierman's update reads 24 numbers of the row and 300 of the factors. No program. -/
namespace Go.Proofs.Ytkllgphhfkoknaa
theorem dotB_congr {A B A' B' : Nat → Int} : ∀ {n : Nat}, (∀ i, i < n → A i = A' i ∧ B i = B' i) → dotB A B n = dotB A' B' n
  | 0, _ => rfl
  | n + 1, h => by simp only [dotB]; rw [dotB_congr fun i hi => h i (by omega), (h n (by omega)).1, (h n (by omega)).2]
theorem dotV_congr {s : Int} {A B A' B' : Nat → Int} {n : Nat} (h : ∀ i, i < n → A i = A' i ∧ B i = B' i) : dotV s A B n = dotV s A' B' n := by unfold dotV; rw [dotS_congr h]
theorem dotH_congr {s : Int} {A B A' B' : Nat → Int} {n : Nat} (h : ∀ i, i < n → A i = A' i ∧ B i = B' i) : dotH s A B n = dotH s A' B' n := by unfold dotH; rw [dotS_congr h, dotB_congr h]
theorem uV_congr {p q : Nat → Int} (hp : ∀ x, x < 300 → p x = q x) {i j : Nat} (hj : j < 24) : uV p i j = uV q i j := by
  unfold uV; split
  · rfl
  · split
    · rename_i h; exact hp _ (by have := pl_lt h hj; omega)
    · rfl
section
variable {p q h g : Nat → Int} (hp : ∀ x, x < 300 → p x = q x) (hh : ∀ i, i < 24 → h i = g i)
include hp
include hh
end
end Go.Proofs.Ytkllgphhfkoknaa
/- The law BiermanClose in its own numbers (plain law of BiermanClose, 5). No program beyond the numbers' names. -/
namespace Go.Proofs.Ytkllgphhfkoknaa
open Go
def bcHM (h : Nat → Int) (k : Nat) : Nat → Int := fun x => if x < k then (h x).tmod 268435456 else h x
theorem bcHM_at (h : Nat → Int) (k : Nat) : bcHM h k k = h k := by unfold bcHM; rw [if_neg (by omega)]
theorem bcHM_next (h : Nat → Int) (k : Nat) : ∀ x, upd (bcHM h k) k ((h k).tmod 268435456) x = bcHM h (k + 1) x := fun x => by
  unfold upd bcHM
  by_cases h1 : x = k
  · subst h1; rw [if_pos rfl, if_pos (by omega)]
  · rw [if_neg h1]
    by_cases h2 : x < k
    · rw [if_pos h2, if_pos (by omega)]
    · rw [if_neg h2, if_neg (by omega)]
def bcR (r : Int) : Int := 17179869184 + Go.bits .and .i64 r 8796093022207
theorem at_congr {f g : Nat → Int} (e : ∀ x, x < 300 → f x = g x) {i j : Nat} (hi : i < 24) (hj : j < 24) : atV f i j = atV g i j ∧ atH f i j = atH g i j := by
  have hm : max i j < 24 := by omega
  have q : ∀ q, q < 24 - max i j → atU f i (max i j) q = atU g i (max i j) q ∧ atX f j (max i j) q = atX g j (max i j) q := fun q hq => by
    unfold atU atX
    rw [uV_congr e (by omega), uV_congr e (by omega), e _ (by omega)]
    exact ⟨rfl, rfl⟩
  unfold atV atH
  rw [dotV_congr q, dotH_congr q, orB_congr fun q hq => by unfold atB; rw [uV_congr e (by omega), e _ (by omega)]]
  exact ⟨rfl, rfl⟩
structure BcN (P H : Nat → Int) (r : Int) : Prop where
  u : ∀ x, x < 276 → ab (P x) ≤ 268435455
  d : ∀ i, i < 24 → 17179869184 ≤ P (276 + i) ∧ P (276 + i) ≤ 8813272891391
  h : ∀ i, i < 24 → ab (H i) ≤ 268435455
  r : 17179869184 ≤ r ∧ r ≤ 8813272891391
theorem bc_num (P0 H0 : Nat → Int) (r0 : Int) : BcN (clD P0 24) (bcHM H0 24) (bcR r0) where
  u := (clD_hyp P0).1
  d := (clD_hyp P0).2
  h := fun i hi => by unfold bcHM; rw [if_pos hi]; exact tmod_ab _ (by decide)
  r := by have := and43 r0; unfold bcR; omega
section
variable {P H : Nat → Int} {r : Int} (N : BcN P H r)
include N
theorem BcN.cond : (∀ x, x < 300 → condF P x = P x) ∧ condH P = false := by
  constructor
  · intro x hx
    unfold condF
    split
    · next h => exact satV_sb (sb_ab (N.u x h) (by decide))
    · next h =>
      have := N.d (x - 276) (by omega)
      rw [show 276 + (x - 276) = x by omega] at this
      exact (cl_varV (by omega) (by omega)).1
  · unfold condH
    rw [cl_orB, cl_orB]; rfl
    · intro i hi; exact satH_sb (sb_ab (N.u i hi) (by decide))
    · intro i hi; have := N.d i hi; exact (cl_varV (by omega) (by omega)).2
theorem BcN.bc : BcH (condF P) (satS H 24) (varV r) where
  u := fun x hx => by rw [N.cond.1 x (by omega)]; exact N.u x hx
  d := fun i hi => by rw [N.cond.1 _ (by omega)]; exact N.d i hi
  h := fun i hi => by unfold satS; rw [if_pos hi, satV_sb (sb_ab (N.h i hi) (by decide))]; exact N.h i hi
  r := by have := N.r; rw [(cl_varV (a := r) (by omega) (by omega)).1]; exact N.r
theorem BcN.upd_no : updH P H r = false := by
  have C := N.bc
  unfold updH lkH
  rw [N.cond.2, cl_orB (p := fun i => satH (H i)) fun i hi => satH_sb (sb_ab (N.h i hi) (by decide)), (cl_varV (a := r) (by have := N.r; omega) (by have := N.r; omega)).2,
    cl_orB (p := bkS (condF P) (satS H 24) (varV r)) fun j hj => by unfold bkS; rw [(C.f hj).2.1, (C.v hj).2.1, (C.as hj).2.1]; rfl,
    cl_orB (p := upCH (condF P) (satS H 24) (varV r)) fun j hj => by
      unfold upCH
      rw [(C.D hj).2.1, (C.x hj).2.1, cl_orB fun i hi => by unfold upRH; rw [(C.U hj hi).2, (C.bs hj hi).2]; rfl]; rfl,
    cl_orB (p := upGH (condF P) (satS H 24) (varV r)) fun i hi => by
      have s := C.a2 (Nat.le_refl 24)
      unfold upGH
      exact (cl_divV (sb_ab (C.b2 (Nat.le_refl 24) i) (by decide)) (by unfold SB; omega) (by omega) (sb_ab (C.law hi hi).2.2.2.1 (by decide))).2]
  rfl
theorem BcN.at_no {i k : Nat} (hi : i < 24) (hk : k < 24) : atH P i k = false := by
  rw [← (at_congr N.cond.1 hi hk).2]; exact (N.bc.at_p hi hk).2.1
/-- The law's sum of At and the row. -/
def bcs (P H : Nat → Int) (i : Nat) : Int := dotV 30 (fun k => atV P i k) H 24
theorem BcN.sum {i : Nat} (hi : i < 24) : bcs P H i = bcu (condF P) (satS H 24) i ∧ dotH 30 (fun k => atV P i k) H 24 = false := by
  have e : ∀ k, k < 24 → atV P i k = atV (condF P) i k ∧ H k = satS H 24 k := fun k hk => by
    refine ⟨(at_congr N.cond.1 hi hk).1.symm, ?_⟩
    unfold satS; rw [if_pos hk, satV_sb (sb_ab (N.h k hk) (by decide))]
  unfold bcs bcu
  rw [dotV_congr (A' := fun k => atV (condF P) i k) e, dotH_congr (A' := fun k => atV (condF P) i k) e]
  exact ⟨rfl, (N.bc.u_near hi).2⟩
/-- The law. -/
theorem BcN.law {i j : Nat} (hi : i < 24) (hj : j < 24) : mdivH (bcs P H i) (bcs P H j) (updS P H r) = false ∧ subH (atV P i j) (mdivV (bcs P H i) (bcs P H j) (updS P H r)) = false ∧
    atH (updP P H r) i j = false ∧ subH (atV (updP P H r) i j) (subV (atV P i j) (mdivV (bcs P H i) (bcs P H j) (updS P H r))) = false ∧
    divH (bcs P H i) (updS P H r) 30 = false ∧ subH (updG P H r i) (divV (bcs P H i) (updS P H r) 30) = false ∧
    ab (subV (atV (updP P H r) i j) (subV (atV P i j) (mdivV (bcs P H i) (bcs P H j) (updS P H r)))) ≤ 67108864 ∧
    ab (subV (updG P H r i) (divV (bcs P H i) (updS P H r) 30)) ≤ 65536 := by
  have C := N.bc
  have L := C.law hi hj
  have s := C.a2 (Nat.le_refl 24)
  have ui := C.near hi
  have uj := C.near hj
  have oa := C.out_at (r := varV r) hi hj
  have pa := C.at_p hi hj
  rw [(at_congr N.cond.1 hi hj).1] at pa L
  have b := C.b2 (Nat.le_refl 24) i
  rw [(N.sum hi).1, (N.sum hj).1]
  have eS : updS P H r = bkA (condF P) (satS H 24) (varV r) 24 := rfl
  have eP : updP P H r = upO (condF P) (satS H 24) (varV r) 24 := rfl
  have eG : updG P H r i = divV (upB (condF P) (satS H 24) 24 i) (bkA (condF P) (satS H 24) (varV r) 24) 30 := rfl
  rw [eS, eP, eG]
  obtain ⟨S, hS⟩ : ∃ q, bkA (condF P) (satS H 24) (varV r) 24 = q := ⟨_, rfl⟩
  obtain ⟨x, hx⟩ : ∃ q, upB (condF P) (satS H 24) 24 i = q := ⟨_, rfl⟩
  obtain ⟨u, hu⟩ : ∃ q, bcu (condF P) (satS H 24) i = q := ⟨_, rfl⟩
  obtain ⟨v, hv⟩ : ∃ q, bcu (condF P) (satS H 24) j = q := ⟨_, rfl⟩
  obtain ⟨O, hO⟩ : ∃ q, atV (upO (condF P) (satS H 24) (varV r) 24) i j = q := ⟨_, rfl⟩
  obtain ⟨A, hA⟩ : ∃ q, atV P i j = q := ⟨_, rfl⟩
  rw [hS, hx, hu, hv, hO, hA] at L
  rw [hS] at s
  rw [hu] at ui
  rw [hv] at uj
  rw [hO] at oa
  rw [hA] at pa
  rw [hx] at b
  rw [hS, hx, hu, hv, hO, hA]
  have sS : SB S := by unfold SB; omega
  have su := sb_ab ui.2 (show _ ≤ 1152921504606846976 by decide)
  have sv := sb_ab uj.2 (show _ ≤ 1152921504606846976 by decide)
  have sx := sb_ab b (show _ ≤ 1152921504606846976 by decide)
  have sO := sb_ab oa.2.2 (show _ ≤ 1152921504606846976 by decide)
  have sA := sb_ab pa.2.2 (show _ ≤ 1152921504606846976 by decide)
  have sQ := sb_ab L.2.1 (show _ ≤ 1152921504606846976 by decide)
  have m : mdivV u v S = rdiv (u * v) S ∧ mdivH u v S = false := by
    unfold mdivV mdivH byV byH
    rw [satV_sb su, satV_sb sv, satV_sb sS, satH_sb su, satH_sb sv, satH_sb sS, if_neg (by omega), satV_sb sQ, satH_sb sQ]
    refine ⟨rfl, ?_⟩
    simp; omega
  have g := cl_divV sx sS (by omega) (sb_ab L.2.2.2.1 (show _ ≤ 1152921504606846976 by decide))
  have h := cl_divV su sS (by omega) (sb_ab L.2.2.2.2 (show _ ≤ 1152921504606846976 by decide))
  rw [m.1, m.2, g.1, h.1, h.2, oa.2.1]
  have a1 := ab_le pa.2.2
  have a2 := ab_le L.2.1
  have a3 := ab_le oa.2.2
  have a4 := ab_le L.2.2.2.1
  have a5 := ab_le L.2.2.2.2
  have w := cl_subV sA sQ (by unfold SB; omega)
  rw [w.1, w.2]
  have z := cl_subV (a := O) (b := A - rdiv (u * v) S) sO (by unfold SB; omega) (by unfold SB; omega)
  have y := cl_subV (a := rdiv (x * 1073741824) S) (b := rdiv (u * 1073741824) S) (by unfold SB; omega) (by unfold SB; omega) (by unfold SB; omega)
  rw [z.1, z.2, y.1, y.2]
  exact ⟨rfl, rfl, rfl, rfl, rfl, rfl, L.1, L.2.2.1⟩
end
end Go.Proofs.Ytkllgphhfkoknaa
/- A call's own blocks as a list: what holds of them all, whatever is called between. -/
namespace Go.Proofs.Ytkllgphhfkoknaa
open Go.RowKit
theorem ls_row_other {w : World} {g : Nat} (cs : Array Value) {p : Addr} (h : p.block ≠ g) : (w.setRow g cs).cell? p = w.cell? p ∧ (w.setRow g cs).frozen? p = w.frozen? p := by
  have e := Go.setRow_other w g p.block cs h
  constructor
  · simp only [World.cell?, e]
  · simp only [World.frozen?, e]
/-- A block of numbers: where, of what type, how many, which. -/
structure Lx where
  b : Nat
  T : Nat
  n : Nat
  F : Nat → Int
/-- The flag at c is h; the blocks E lie from w's end to top. -/
structure LsR (c : Addr) (h : Bool) (E : List Lx) (top : Nat) (w wr : World) : Prop where
  upd : Upd c h w wr
  cell : wr.cell? c = some (.bool h)
  free : wr.frozen? c = false
  cb : c.block < w.heap.size
  ex : ∀ e, e ∈ E → Blk wr e.b e.T e.n e.F ∧ w.heap.size ≤ e.b ∧ e.b < top
  lim : w.heap.size ≤ top
  le : top ≤ wr.heap.size
section
variable {c : Addr} {h h' : Bool} {E : List Lx} {top : Nat} {w wr w' : World}
theorem LsR.upd' (s : LsR c h E top w wr) (u : Upd c h' wr w') : LsR c h' E top w w' := by
  have hcb := s.cb
  have hl := s.lim
  exact ⟨s.upd.trans u, u.cellc s.cell, (u.frozen (World.block_lt_of_cell? _ _ s.cell)).trans s.free, s.cb, fun e he => ⟨(s.ex e he).1.upd u (by have := (s.ex e he).2.1; omega), (s.ex e he).2⟩, s.lim, Nat.le_trans s.le u.size⟩
theorem LsR.low (s : LsR c h E top w wr) (u : Below top wr w') (hz : top ≤ w'.heap.size) : LsR c h E top w w' := by
  have hcb := s.cb
  have hl := s.lim
  exact ⟨s.upd.then' (u.mono (by omega)), (u.cell (by omega)).trans s.cell, (u.frozen (by omega)).trans s.free, s.cb, fun e he => ⟨(u.block _ (s.ex e he).2.2).trans (s.ex e he).1, (s.ex e he).2⟩, s.lim, hz⟩
theorem LsR.down (s : LsR c h E top w wr) (u : Below wr.heap.size wr w') : LsR c h E top w w' := s.low (u.mono s.le) (Nat.le_trans s.le u.size)
theorem LsR.drew (s : LsR c h E top w wr) : LsR c h E top w wr.drew := s.down (Below.drew (Below.refl _ _))
theorem LsR.alloc (s : LsR c h E top w wr) (o : Obj) : LsR c h E top w (wr.alloc o) := s.down ((Below.refl _ _).alloc (Nat.le_refl _) o)
/-- One more block, laid at the end. -/
theorem LsR.lay (s : LsR c h E top w wr) (T n : Nat) (F : Nat → Int) : LsR c h (⟨wr.heap.size, T, n, F⟩ :: E) (wr.heap.size + 1) w (wr.alloc (.cells (arrv n F) T)) := by
  have k := s.alloc (.cells (arrv n F) T)
  have hl := s.lim
  have hle := s.le
  refine ⟨k.upd, k.cell, k.free, k.cb, fun e he => ?_, by omega, by simp⟩
  rcases List.mem_cons.1 he with rfl | he
  · exact ⟨Blk.new _ _ _ _, by simp only; omega, by simp⟩
  · have := k.ex e he
    exact ⟨this.1, this.2.1, by omega⟩
/-- .. and filled. -/
theorem LsR.put (s : LsR c h E top w wr) (T n : Nat) (G F : Nat → Int) : LsR c h (⟨wr.heap.size, T, n, F⟩ :: E) (wr.heap.size + 1) w ((wr.alloc (.cells (arrv n G) T)).setRow wr.heap.size (arrv n F)) := by
  have hl := s.lim
  have hle := s.le
  have b : Below wr.heap.size wr ((wr.alloc (.cells (arrv n G) T)).setRow wr.heap.size (arrv n F)) := below_row ((Below.refl _ _).alloc (Nat.le_refl _) _) (Nat.le_refl _) _
  have k := s.down b
  refine ⟨k.upd, k.cell, k.free, k.cb, fun e he => ?_, by omega, by rw [setRow_size]; simp⟩
  rcases List.mem_cons.1 he with rfl | he
  · exact ⟨(Blk.new _ _ _ _).setRow F, by simp only; omega, by simp⟩
  · have := k.ex e he
    exact ⟨this.1, this.2.1, by omega⟩
theorem LsR.e0 {b T n : Nat} {F : Nat → Int} (s : LsR c h (⟨b, T, n, F⟩ :: E) top w wr) : Blk wr b T n F := (s.ex _ (.head _)).1
theorem LsR.tail {a : Lx} (s : LsR c h (a :: E) top w wr) : LsR c h E top w wr := ⟨s.upd, s.cell, s.free, s.cb, fun e he => s.ex e (.tail _ he), s.lim, s.le⟩
theorem LsR.e1 {a : Lx} {b T n : Nat} {F : Nat → Int} (s : LsR c h (a :: ⟨b, T, n, F⟩ :: E) top w wr) : Blk wr b T n F := s.tail.e0
theorem LsR.e2 {a a2 : Lx} {b T n : Nat} {F : Nat → Int} (s : LsR c h (a :: a2 :: ⟨b, T, n, F⟩ :: E) top w wr) : Blk wr b T n F := s.tail.e1
theorem LsR.e3 {a a2 a3 : Lx} {b T n : Nat} {F : Nat → Int} (s : LsR c h (a :: a2 :: a3 :: ⟨b, T, n, F⟩ :: E) top w wr) : Blk wr b T n F := s.tail.e2
theorem LsR.e4 {a a2 a3 a4 : Lx} {b T n : Nat} {F : Nat → Int} (s : LsR c h (a :: a2 :: a3 :: a4 :: ⟨b, T, n, F⟩ :: E) top w wr) : Blk wr b T n F := s.tail.e3
theorem LsR.e5 {a a2 a3 a4 a5 : Lx} {b T n : Nat} {F : Nat → Int} (s : LsR c h (a :: a2 :: a3 :: a4 :: a5 :: ⟨b, T, n, F⟩ :: E) top w wr) : Blk wr b T n F := s.tail.e4
theorem LsR.e6 {a a2 a3 a4 a5 a6 : Lx} {b T n : Nat} {F : Nat → Int} (s : LsR c h (a :: a2 :: a3 :: a4 :: a5 :: a6 :: ⟨b, T, n, F⟩ :: E) top w wr) : Blk wr b T n F := s.tail.e5
theorem LsR.e7 {a a2 a3 a4 a5 a6 a7 : Lx} {b T n : Nat} {F : Nat → Int} (s : LsR c h (a :: a2 :: a3 :: a4 :: a5 :: a6 :: a7 :: ⟨b, T, n, F⟩ :: E) top w wr) : Blk wr b T n F := s.tail.e6
/-- The first block's row stored. -/
theorem LsR.row {b T n : Nat} {F : Nat → Int} (s : LsR c h (⟨b, T, n, F⟩ :: E) top w wr) (hn : ∀ e, e ∈ E → e.b ≠ b) (G : Nat → Int) : LsR c h (⟨b, T, n, G⟩ :: E) top w (wr.setRow b (arrv n G)) := by
  have h0 := s.ex _ (.head _)
  have hcb := s.cb
  have hb : w.heap.size ≤ b := h0.2.1
  refine ⟨s.upd.then' (below_row (Below.refl _ _) hb _), by rw [(ls_row_other _ (by omega)).1]; exact s.cell, by rw [(ls_row_other _ (by omega)).2]; exact s.free, s.cb, fun e he => ?_, s.lim, by rw [setRow_size]; exact s.le⟩
  rcases List.mem_cons.1 he with rfl | he
  · exact ⟨h0.1.setRow G, h0.2⟩
  · have := s.ex e (.tail _ he)
    exact ⟨this.1.setRow_other _ (hn e he), this.2⟩
/-- The first block's cell stored. -/
theorem LsR.set {b T n : Nat} {F : Nat → Int} (s : LsR c h (⟨b, T, n, F⟩ :: E) top w wr) (hn : ∀ e, e ∈ E → e.b ≠ b) (i : Nat) (x : Int) : LsR c h (⟨b, T, n, Go.Proofs.Ytkllgphhfkoknaa.upd F i x⟩ :: E) top w (wr.setCell ⟨b, i, none⟩ (.int .i64 x)) := by
  have h0 := s.ex _ (.head _)
  have hcb := s.cb
  have hb : w.heap.size ≤ b := h0.2.1
  have hne : (⟨b, i, none⟩ : Addr) ≠ c := fun e => by rw [← e] at hcb; simp only at hcb; omega
  refine ⟨s.upd.setCell hb _, (World.cell?_setCell_other _ _ _ _ hne).trans s.cell, (World.frozen?_setCell ..).trans s.free, s.cb, fun e he => ?_, s.lim, by rw [setCell_size]; exact s.le⟩
  rcases List.mem_cons.1 he with rfl | he
  · exact ⟨h0.1.set i x, h0.2⟩
  · have := s.ex e (.tail _ he)
    exact ⟨this.1.other (hn e he) _, this.2⟩
theorem LsR.congr {b T n : Nat} {F G : Nat → Int} (s : LsR c h (⟨b, T, n, F⟩ :: E) top w wr) (eh : h = h') (e : ∀ i, i < n → F i = G i) : LsR c h' (⟨b, T, n, G⟩ :: E) top w wr := by
  subst eh
  refine ⟨s.upd, s.cell, s.free, s.cb, fun x hx => ?_, s.lim, s.le⟩
  rcases List.mem_cons.1 hx with rfl | hx
  · exact ⟨s.e0.congr e, (s.ex _ (.head _)).2⟩
  · exact s.ex x (.tail _ hx)
/-- The blocks in another order, or some of them. -/
theorem LsR.sub {E' : List Lx} (s : LsR c h E top w wr) (hs : ∀ e, e ∈ E' → e ∈ E) : LsR c h E' top w wr := ⟨s.upd, s.cell, s.free, s.cb, fun e he => s.ex e (hs e he), s.lim, s.le⟩
theorem ls_nil (hc : w.cell? c = some (.bool h)) (hf : w.frozen? c = false) : LsR c h [] w.heap.size w w := ⟨Upd.refl hc, hc, hf, World.block_lt_of_cell? w c hc, (fun e he => by cases he), Nat.le_refl _, Nat.le_refl _⟩
end
end Go.Proofs.Ytkllgphhfkoknaa
/- Stores in a region that draws its order, by their runs: the walk's goal is never looked into. -/
namespace Go.Proofs.Ytkllgphhfkoknaa
open Go.RowKit
end Go.Proofs.Ytkllgphhfkoknaa
/- Arguments that are arrays of int64 (or structs of such): opened as numbers; a slice of int64 too. Of no one program. -/
namespace Go.Proofs.Ytkllgphhfkoknaa
open Go.RowKit Go.ChangeShapes
def AllInt (cs : List Value) : Prop := ∀ v, v ∈ cs → ∃ z, v = .int .i64 z ∧ (Lit.int .i64 z).wf = true
section
variable {H : Type} {enc : TypeId × Value → H} {P : Program} {w : World} {base : Nat} {spare : Nat → Bool} {held : Bool}
/-- What reads as t is int64 numbers alone. -/
def Ints (enc : TypeId × Value → H) (P : Program) (w : World) (base : Nat) (spare : Nat → Bool) (held : Bool) (t : TypeId) : Prop :=
  ∀ fuel cs x, DataW.trod enc P w base spare held fuel t cs = some x → AllInt cs ∧ x.2 = []
theorem ints_int {t : TypeId} (hu : P.underlying t = some (.int .i64)) : Ints enc P w base spare held t := by
  intro fuel cs x h
  obtain ⟨n, h1, h2, h3⟩ := DataW.trod_int hu h
  subst h1
  refine ⟨fun v hv => ?_, ?_⟩
  · rw [List.mem_singleton] at hv; exact ⟨n, hv, h3⟩
  · rw [h2]
theorem ints_array {t e : TypeId} {n m : Nat} (hu : P.underlying t = some (.array n e)) (hc : P.cellsOf t = n * m) (hm : P.cellsOf e = m) (he : Ints enc P w base spare held e) : Ints enc P w base spare held t := by
  intro fuel cs x h
  obtain ⟨xs, k, rfl, rfl, hl, hx, hi⟩ := DataW.trod_array hu h
  rw [hc] at hl
  rw [hm] at hi
  refine ⟨fun v hv => ?_, ?_⟩
  · obtain ⟨q, hq, rfl⟩ := List.getElem_of_mem hv
    have hm0 : 0 < m := by
      rcases Nat.eq_zero_or_pos m with h0 | h0
      · subst h0; omega
      · exact h0
    have hqm : q / m < n := by rw [Nat.div_lt_iff_lt_mul hm0]; omega
    have hh := hi (q / m) hqm
    rw [List.getElem?_eq_getElem (by omega)] at hh
    refine (he _ _ _ hh).1 _ ?_
    rw [List.mem_iff_getElem?]
    refine ⟨q % m, ?_⟩
    rw [List.getElem?_take_of_lt (Nat.mod_lt _ hm0), List.getElem?_drop, Nat.mul_comm, Nat.div_add_mod]
    exact List.getElem?_eq_getElem hq
  · show xs.flatMap (·.2) = []
    rw [List.flatMap_eq_nil_iff]
    intro y hy
    obtain ⟨q, hq, rfl⟩ := List.getElem_of_mem hy
    have hh := hi q (by omega)
    rw [List.getElem?_eq_getElem hq] at hh
    exact (he _ _ _ hh).2
/-- A struct of two: U's numbers, then D's. -/
theorem ints_struct2 {t : TypeId} {f0 f1 : Field} {a b : Nat} (hu : P.underlying t = some (.struct #[f0, f1])) (hc : P.cellsOf t = a + b) (o0 : f0.offset = 0) (o1 : f1.offset = a) (c0 : P.cellsOf f0.type = a) (c1 : P.cellsOf f1.type = b)
    (h0 : Ints enc P w base spare held f0.type) (h1 : Ints enc P w base spare held f1.type) : Ints enc P w base spare held t := by
  intro fuel cs x h
  obtain ⟨xs, k, rfl, rfl, hl, hx, hi⟩ := DataW.trod_struct hu h
  rw [hc] at hl
  have hx2 : xs.length = 2 := hx
  have g0 := hi 0 f0 rfl
  have g1 := hi 1 f1 rfl
  rw [List.getElem?_eq_getElem (by omega)] at g0 g1
  have r0 := h0 _ _ _ g0
  have r1 := h1 _ _ _ g1
  refine ⟨fun v hv => ?_, ?_⟩
  · obtain ⟨q, hq, rfl⟩ := List.getElem_of_mem hv
    by_cases hqa : q < a
    · refine r0.1 _ ?_
      rw [List.mem_iff_getElem?]
      refine ⟨q, ?_⟩
      rw [c0, o0, List.drop_zero, List.getElem?_take_of_lt hqa]
      exact List.getElem?_eq_getElem hq
    · refine r1.1 _ ?_
      rw [List.mem_iff_getElem?]
      refine ⟨q - a, ?_⟩
      rw [c1, o1, List.getElem?_take_of_lt (by omega), List.getElem?_drop, show a + (q - a) = q by omega]
      exact List.getElem?_eq_getElem hq
  · show xs.flatMap (·.2) = []
    rw [List.flatMap_eq_nil_iff]
    intro y hy
    obtain ⟨q, hq, rfl⟩ := List.getElem_of_mem hy
    obtain rfl | rfl : q = 0 ∨ q = 1 := by omega
    · exact r0.2
    · exact r1.2
/-- A value of such a type: an aggregate of numbers. -/
theorem open_vec {r : Reach} {b0 n : Nat} {t : TypeId} {v : Value} {d : DataW H} {ps : List MemPlace} (hI : Ints enc P w base spare held t) (hc : P.cellsOf t = n)
    (hu : ∃ u, P.underlying t = some u ∧ (match u with | .struct _ | .array _ _ => true | _ => false) = true) (hval : Value.okWide P w r b0 t v) (hd : DataW.Trod enc P w base spare held t v d ps) :
    ∃ f : Nat → Int, v = .agg (arrv n f) ∧ (∀ i, -9223372036854775808 ≤ f i ∧ f i ≤ 9223372036854775807) ∧ ps = [] := by
  obtain ⟨u, hu1, hu2⟩ := hu
  have hv : ∃ cs, v = .agg cs ∧ cs.size = P.cellsOf t := by
    unfold Value.okWide at hval
    rw [hu1] at hval
    cases u <;> simp at hu2 hval <;> (obtain ⟨cs, h1, h2, _⟩ := hval; exact ⟨cs, h1, h2⟩)
  obtain ⟨cs, rfl, hs⟩ := hv
  rw [hc] at hs
  obtain ⟨fuel, hf⟩ := hd
  obtain ⟨hA, hp⟩ := hI _ _ _ hf
  have hA' : ∀ i, i < n → ∃ z, cs[i]? = some (.int .i64 z) ∧ (Lit.int .i64 z).wf = true := by
    intro i hi
    have hm : cs[i]'(by omega) ∈ (Value.agg cs).cells.toList := by simp [Value.cells]
    obtain ⟨z, hz, hw⟩ := hA _ hm
    exact ⟨z, by rw [Array.getElem?_eq_getElem (by omega), hz], hw⟩
  refine ⟨fun i => if h : i < n then Classical.choose (hA' i h) else 0, ?_, fun i => ?_, hp⟩
  · congr 1
    apply Array.ext_getElem?
    intro i
    by_cases hi : i < n
    · rw [arrv_get hi]
      simp only [dif_pos hi]
      exact (Classical.choose_spec (hA' i hi)).1
    · rw [Array.getElem?_eq_none (by omega), Array.getElem?_eq_none (by rw [arrv_size]; omega)]
  · by_cases hi : i < n
    · simp only [dif_pos hi]
      exact Go.bounds_i64 (Classical.choose_spec (hA' i hi)).2
    · simp only [dif_neg hi]; omega
end
end Go.Proofs.Ytkllgphhfkoknaa
/- The join of a law: arguments that read before the call read behind it, if nothing that was there has turned. -/
namespace Go.Proofs.Ytkllgphhfkoknaa
open Go.ChangeShapes Go.WideShapes Go.ChangeAt Go.RowKit
theorem trodAll_stays {H : Type} {enc : TypeId × Value → H} {P : Program} (hl : laidOutB P = true) {W W' : World} (hb : Below W.heap.size W W') {sp : Nat → Bool} : ∀ {ts : List TypeId} {vs : List Value} {ds : List (DataW H)} {p : List MemPlace},
    (ts.all fun t => P.readableRec t && decide (t < P.types.size)) = true → DataW.TrodAll enc P W 0 (fun _ => true) true ts vs ds p → (∀ x ∈ p, x.block < W.heap.size) → (∀ x ∈ p, sp x.block = true) → DataW.TrodAll enc P W' 0 sp true ts vs ds p
  | [], [], [], _, _, h, _, _ => h
  | t :: ts, v :: vs, d :: ds, p, ht, h, hlt, hsp => by
    obtain ⟨q, r, h1, h2, rfl⟩ := h
    rw [List.all_cons, Bool.and_eq_true, Bool.and_eq_true, decide_eq_true_eq] at ht
    exact ⟨q, r, WideElems.Trod_stays hl ht.1.1 ht.1.2 h1 (fun x hx => hb.same (hlt x (List.mem_append_left _ hx))) (fun x hx => hsp x (List.mem_append_left _ hx)),
      trodAll_stays hl hb ht.2 h2 (fun x hx => hlt x (List.mem_append_right _ hx)) (fun x hx => hsp x (List.mem_append_right _ hx)), rfl⟩
  | [], _ :: _, _, _, _, h, _, _ => by cases ‹List (DataW H)› <;> exact h.elim
  | [], [], _ :: _, _, _, h, _, _ => h.elim
  | _ :: _, [], _, _, _, h, _, _ => by cases ‹List (DataW H)› <;> exact h.elim
  | _ :: _, _ :: _, [], _, _, h, _, _ => h.elim
/-- What a law owes behind the call: it answers true, and nothing that was there has turned. -/
theorem law_post {H : Type} {enc : TypeId × Value → H} {P : Program} {f : Func} {s : ChangeSpec} {apart fresh handsOn again : Bool} {W W' : World} {args : Array Value} {ds gs : List (DataW H)} {before : List MemPlace} {tb : TypeId}
    (hW : DataW.Whole enc P f.params.toList s.vars apart W args.toList ds gs before) (hv : s.vars = []) (hfn : s.fn H ds = { results := [.lit (.bool true)], args := ds })
    (hu : P.underlying tb = some .bool) (hr : f.resultTypes = #[tb]) (hl : laidOutB P = true) (hts : (f.params.toList.all fun t => P.readableRec t && decide (t < P.types.size)) = true) (hb : Below W.heap.size W W') :
    s.post enc P f apart fresh handsOn again W args (.bool true) W' := by
  have hlt : ∀ x ∈ before, x.block < W.heap.size := fun x hx => hW.lt x hx
  have hW0 := hW
  obtain ⟨p, q, hA, hV, rfl, hfz, hnd⟩ := hW
  rw [hv] at hV
  obtain ⟨rfl, rfl⟩ := trodVars_none hV
  rw [List.append_nil] at hlt
  have hargs : ∀ sp : Nat → Bool, (∀ x ∈ p, sp x.block = true) → DataW.TrodAll enc P W' 0 sp true f.params.toList args.toList ds p := fun sp hsp => trodAll_stays hl hb hts hA hlt hsp
  have hvars : ∀ sp : Nat → Bool, DataW.TrodVars enc P W' sp s.vars ([] : List (DataW H)) [] := fun sp => by rw [hv]; exact rfl
  have hres : ∀ (b : Nat) (sp : Nat → Bool) (hd : Bool), DataW.TrodAll enc P W' b sp hd f.resultTypes.toList ((Value.bool true).resultList f.resultTypes.size) [.lit (.bool true)] [] := fun b sp hd => by
    rw [hr]; exact trodAll_mk1 (shut_bool hu _)
  have hold : ∀ x ∈ p, (fun b => decide (b < W.heap.size)) x.block = true := fun x hx => by simpa using hlt x hx
  have hfn' : s.fn H (ds ++ []) = { results := [.lit (.bool true)], args := ds } := by rw [List.append_nil]; exact hfn
  refine ⟨ds, [], p ++ [], [], p, [], hW0, ?_, ?_, ?_, World.keptBut_mono (fun x hx => ⟨hx, ?_⟩) (hb.frame (· ∈ p ++ [])), fun _ => ?_⟩
  · rw [hfn']; exact hres _ _ _
  · rw [hfn']; exact hargs _ hold
  · rw [hfn']; exact hvars _
  · rw [List.append_nil] at hx; exact Or.inr (.inl hx)
  · refine ⟨ok_one hr rfl (okWide_bool_mk hu _), _, _, ([] ++ p) ++ [], ⟨[] ++ p, [], trodAll_append (hargs _ (fun _ _ => rfl)) (hres _ _ _), hvars _, rfl, ?_, ?_⟩, ?_⟩
    · intro b off hx
      have hin : MemPlace.cell b off ∈ p := by simpa using hx
      rw [hb.frozen (p := ⟨b, off, none⟩) (hlt _ hin)]
      exact hfz b off (by simpa using hin)
    · intro ha
      simpa using hnd ha
    · intro x hx _
      simpa using hx
section
variable {H : Type} {enc : TypeId × Value → H} {w : World} {base : Nat} {spare : Nat → Bool} {held : Bool}
theorem cells_of_size {P : Program} {t : TypeId} {n : Nat} (h : (P.info? t).map (·.size) = some n) : P.cellsOf t = n := by
  unfold Program.cellsOf
  cases e : P.info? t with
  | none => rw [e] at h; cases h
  | some i => rw [e] at h; simpa using h
theorem cells_i64 : Try.prog.cellsOf 2 = 1 := cells_of_size (by kernel_rfl)
theorem cells_col : Try.prog.cellsOf 23 = 24 := cells_of_size (by kernel_rfl)
theorem cells_row : Try.prog.cellsOf 26 = 24 := cells_of_size (by kernel_rfl)
theorem cells_u : Try.prog.cellsOf 22 = 276 := cells_of_size (by kernel_rfl)
theorem cells_cov : Try.prog.cellsOf 25 = 300 := cells_of_size (by kernel_rfl)
theorem ints_i64 : Ints enc Try.prog w base spare held 2 := ints_int Try.underlying2
theorem ints_col : Ints enc Try.prog w base spare held 23 := ints_array (n := 24) (m := 1) Try.underlying23 cells_col cells_i64 ints_i64
theorem ints_row : Ints enc Try.prog w base spare held 26 := ints_array (n := 24) (m := 1) Try.underlying26 cells_row cells_i64 ints_i64
theorem ints_u : Ints enc Try.prog w base spare held 22 := ints_array (n := 276) (m := 1) Try.underlying22 cells_u cells_i64 ints_i64
theorem ints_cov : Ints enc Try.prog w base spare held 25 := ints_struct2 (a := 276) (b := 24) Try.underlying25 cells_cov rfl rfl cells_u cells_col ints_u ints_col
theorem own_knob : ownKnob Try.prog.godebug = none := by kernel_rfl
theorem laid_out : laidOutB Try.prog = true := by kernel_rfl
end
end Go.Proofs.Ytkllgphhfkoknaa
