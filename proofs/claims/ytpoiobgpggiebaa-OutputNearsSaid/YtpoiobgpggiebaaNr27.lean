/- Plain laws of OutputNears and OutputCalm. -/
import Derived.Test.YtpoiobgpggiebaaLx27
import Derived.Test.YtpoiobgpggiebaaS01
namespace Go.Proofs.Ytpoiobgpggiebaa
set_option maxRecDepth 100000
/-- What is left behind a step by the part g. -/
theorem near_one {e o g : Int} {B : Int} (hB : B ≤ 9007199254740992) (he : -B ≤ e ∧ e ≤ B) (ho : -B ≤ o ∧ o ≤ B) (hg : 1 ≤ g ∧ g ≤ 1073741824) :
    let q := addV o (mulV (subV e o) g 30)
    (-B ≤ q ∧ q ≤ B) ∧ ∀ a b : Int, (a = e - o ∨ a = o - e) → 0 ≤ a → (b = e - q ∨ b = q - e) → 0 ≤ b → b ≤ a - mulV g a 30 + 1 ∧ -1 ≤ mulV g a 30 ∧ mulV g a 30 ≤ a + 1 := by
  obtain ⟨d1, d2, d3, _, _⟩ := dmul (e := e) (o := o) (g := g) (by omega) (by omega) (by omega)
  intro q
  have hq : q = o + rsh ((e - o) * g) 30 := by show addV o (mulV (subV e o) g 30) = _; rw [d1, d2, d3]
  have hr := rsh_err ((e - o) * g)
  have key : (0 ≤ e - o → 0 ≤ (e - o) * g ∧ (e - o) * g ≤ 1073741824 * (e - o)) ∧ (e - o ≤ 0 → (e - o) * g ≤ 0 ∧ 1073741824 * (e - o) ≤ (e - o) * g) := by
    refine ⟨fun h => ?_, fun h => ?_⟩
    · have k1 := Int.mul_nonneg h (show (0 : Int) ≤ g by omega)
      have k2 := Int.mul_nonneg h (show (0 : Int) ≤ 1073741824 - g by omega)
      rw [Int.mul_sub] at k2
      refine ⟨k1, ?_⟩
      rw [Int.mul_comm 1073741824]; omega
    · have k1 := Int.mul_nonneg (show (0 : Int) ≤ -(e - o) by omega) (show (0 : Int) ≤ g by omega)
      have k2 := Int.mul_nonneg (show (0 : Int) ≤ -(e - o) by omega) (show (0 : Int) ≤ 1073741824 - g by omega)
      rw [Int.neg_mul] at k1 k2
      rw [Int.mul_sub] at k2
      refine ⟨by omega, ?_⟩
      rw [Int.mul_comm 1073741824]; omega
  have hin : -B ≤ q ∧ q ≤ B := by
    rw [hq]
    rcases Int.le_total 0 (e - o) with h | h
    · have := key.1 h
      generalize (e - o) * g = X at *
      omega
    · have := key.2 h
      generalize (e - o) * g = X at *
      omega
  refine ⟨hin, fun a b ha ha0 hb hb0 => ?_⟩
  have ea : g * a = (e - o) * g ∨ g * a = -((e - o) * g) := by
    rcases ha with rfl | rfl
    · left; rw [Int.mul_comm]
    · right; rw [show o - e = -(e - o) by omega, Int.mul_neg, Int.mul_comm]
  have hm := rsh_err (g * a)
  have hga : 0 ≤ g * a ∧ g * a ≤ 1073741824 * a := by
    have k1 := Int.mul_nonneg (show (0 : Int) ≤ g by omega) ha0
    have k2 := Int.mul_nonneg (show (0 : Int) ≤ 1073741824 - g by omega) ha0
    rw [Int.sub_mul] at k2
    exact ⟨k1, by omega⟩
  have hmv : mulV g a 30 = rsh (g * a) 30 := (mulV_of (a := g) (b := a) ⟨by omega, by omega⟩ ⟨by omega, by omega⟩ ⟨by omega, by omega⟩).1
  rw [hmv]
  rw [hq] at hb
  generalize (e - o) * g = X at *
  generalize g * a = Y at *
  generalize rsh X 30 = r at *
  generalize rsh Y 30 = m at *
  rcases ea with rfl | rfl <;> rcases ha with rfl | rfl <;> rcases hb with rfl | rfl <;> omega
/-- An output behind Correct. -/
theorem near_out {g : Int} (hg : 1 ≤ g ∧ g ≤ 1073741824) (T S : Nat → Int) (t t0 : Int) {j : Nat} (h1 : 5 ≤ j) (h2 : j < 11) :
    eaF (crF g (ofF T t) (ofF S t0)) (ofF S t0) j = addV (ofF S t0 j) (mulV (subV (ofF T t j) (ofF S t0 j)) g 30) := by
  have hE := of_bd T t h1 h2
  have hO := of_bd S t0 h1 h2
  have h := (near_one (e := ofF T t j) (o := ofF S t0 j) (g := g) (B := obx j) (obx_bd j).2 hE hO hg).1
  unfold eaF
  rw [po_in _ _ _ h1 h2 (by rw [cr_hi g _ _ _ h1 h2]; exact h), cr_hi g _ _ _ h1 h2]
/-- The kept estimate's own numbers. -/
theorem of_keep (T : Nat → Int) (t : Int) {j : Nat} (h1 : 5 ≤ j) (h2 : j < 11) : ofF (keepF T) t j = keepF T (j - 1) := by
  rw [ofF_get _ _ h2, if_neg (by omega)]
  exact (keep_fix (keep_good T)).1 (j - 1) (by omega)
theorem absV_bd {x B : Int} (hB : B ≤ 1000000000000000000) (h : -B ≤ x ∧ x ≤ B) : (absV x = x ∨ absV x = -x) ∧ 0 ≤ absV x ∧ absV x ≤ B := by
  unfold absV
  rw [if_neg (by omega)]
  split <;> omega
theorem near_abs {t o q g B : Int} (hB : 0 ≤ B ∧ B ≤ 9007199254740992) (ht : -B ≤ t ∧ t ≤ B) (ho : -B ≤ o ∧ o ≤ B) (hg : 1 ≤ g ∧ g ≤ 1073741824) (hq : q = addV o (mulV (subV t o) g 30)) :
    (-18014398509481984 ≤ t - o ∧ t - o ≤ 18014398509481984) ∧ (-18014398509481984 ≤ t - q ∧ t - q ≤ 18014398509481984) ∧ absV (t - q) ≤ absV (t - o) - mulV g (absV (t - o)) 30 + 1 ∧ 0 ≤ absV (t - o) ∧ absV (t - o) ≤ 18014398509481984 ∧ -1 ≤ mulV g (absV (t - o)) 30 ∧ mulV g (absV (t - o)) 30 ≤ absV (t - o) + 1 := by
  have h := near_one (e := t) (o := o) (g := g) (B := B) hB.2 ht ho hg
  simp only at h
  rw [← hq] at h
  obtain ⟨h1, h2⟩ := h
  obtain ⟨a1, a2, a3⟩ := absV_bd (x := t - o) (B := 18014398509481984) (by omega) (by omega)
  obtain ⟨b1, b2, b3⟩ := absV_bd (x := t - q) (B := 18014398509481984) (by omega) (by omega)
  obtain ⟨c1, c2, c3⟩ := h2 (absV (t - o)) (absV (t - q)) (by omega) a2 (by omega) b2
  exact ⟨by omega, by omega, c1, a2, a3, c2, c3⟩
end Go.Proofs.Ytpoiobgpggiebaa
