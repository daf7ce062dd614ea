/- Contracts and plain laws beyond the other parts, 1: they hold for all arguments. -/
import Derived.Test.YtpoiobgpggiebaaQ01
import Derived.Test.YtpoiobgpggiebaaQ02
import Derived.Test.YtpoiobgpggiebaaQ03
import Derived.Test.YtpoiobgpggiebaaQ04
import Derived.Test.YtpoiobgpggiebaaQ05
import Derived.Test.YtpoiobgpggiebaaQ06
import Derived.Test.YtpoiobgpggiebaaQ07
import Derived.Test.YtpoiobgpggiebaaQ08
import Derived.Test.YtpoiobgpggiebaaQ09
import Derived.Test.YtpoiobgpggiebaaQ10
import Derived.Test.YtpoiobgpggiebaaQ11
import Derived.Test.YtpoiobgpggiebaaQ12
import Derived.Test.YtpoiobgpggiebaaQ13
import Derived.Test.YtpoiobgpggiebaaQ14
import Derived.Test.YtpoiobgpggiebaaQ15
import Derived.Test.YtpoiobgpggiebaaQ16
import Derived.Test.YtpoiobgpggiebaaQ17
import Derived.Test.YtpoiobgpggiebaaQ18
import Derived.Test.YtpoiobgpggiebaaQ19
import Derived.Test.YtpoiobgpggiebaaQ20
import Derived.Test.YtpoiobgpggiebaaQ21
import Derived.Test.YtpoiobgpggiebaaQ22
namespace Go.Proofs.Ytpoiobgpggiebaa
theorem orB_noB {p : Nat → Bool} : ∀ {n : Nat}, (∀ i, i < n → p i = false) → orB p n = false
  | 0, _ => rfl
  | n + 1, h => by simp only [orB]; rw [orB_noB fun i hi => h i (by omega), h n (by omega)]; rfl
theorem clampV_id {x M : Int} (h : -M ≤ x ∧ x ≤ M) : clampV x (-M) M = x ∧ clampH x (-M) M = false := by
  unfold clampV clampH; rw [if_neg (by omega), if_neg (by omega), if_neg (by omega)]; simp; omega
theorem clm_fix {K : Nat → Int} (h : ∀ i, i < 24 → -(boxF i) ≤ K i ∧ K i ≤ boxF i) : (∀ i, i < 24 → clmF K i = K i) ∧ clmH K = false := by
  refine ⟨fun i hi => ?_, orB_noB fun i hi => (clampV_id (h (4 + i) (by omega))).2⟩
  unfold clmF; split
  · rfl
  · exact (clampV_id (h i hi)).1
/-- What is good is kept as it is. -/
theorem keep_fix {K : Nat → Int} (h : goodB K = true) : (∀ i, i < 24 → keepF K i = K i) ∧ keepH K = false := by
  obtain ⟨h1, h2⟩ := good_parts h
  have e : keepI K = K := by unfold keepI; rw [if_pos h2]
  obtain ⟨c1, c2⟩ := clm_fix h1
  unfold keepF keepH
  rw [if_pos h2, e]
  exact ⟨c1, by rw [c2]; rfl⟩
end Go.Proofs.Ytpoiobgpggiebaa
namespace Go.Proofs.Ytpoiobgpggiebaa
open Go.RowKit
open Go
set_option maxRecDepth 100000
section
variable {E : List Lx} {top : Nat} {w wr w' : World}
end
theorem poF_get (S O : Nat → Int) (i : Nat) : poF S O i = if i < 10 then O (1 + i) else S i := by
  unfold poF withF
  by_cases h : i < 10
  · rw [if_pos h]
    by_cases h7 : 7 ≤ i
    · rw [if_pos (by omega)]; show O (8 + ((i : Int) - 7).toNat) = _; congr 1; omega
    · rw [if_neg (by omega)]
      by_cases h4 : 4 ≤ i
      · rw [if_pos (by omega)]; show O (5 + ((i : Int) - 4).toNat) = _; congr 1; omega
      · rw [if_neg (by omega), if_pos (by omega)]; congr 1
  · rw [if_neg h, if_neg (by omega), if_neg (by omega), if_neg (by omega)]
end Go.Proofs.Ytpoiobgpggiebaa
namespace Go.Proofs.Ytpoiobgpggiebaa
open Go.RowKit
open Go
set_option maxRecDepth 100000
section
variable {c : Addr} {h h' : Bool} {pb : Nat} {z g : Int} {v : Value} {n : Nat} {L : Nat → Nat → Int} {E : List Lx} {top : Nat} {w wr w' : World}
end
theorem lastK_none {L : Nat → Nat → Int} {t : Int} : ∀ {n : Nat}, (∀ i, i < n → t < L i 0) → lastK L t n = -1
  | 0, _ => rfl
  | n + 1, h => by
    unfold lastK
    rw [if_neg (by have := h n (by omega); omega)]
    exact lastK_none fun i hi => h i (by omega)
end Go.Proofs.Ytpoiobgpggiebaa
namespace Go.Proofs.Ytpoiobgpggiebaa
theorem satV_sb {x : Int} (h : SB x) : satV x = x := satV_id h.1 h.2
theorem satH_sb {x : Int} (h : SB x) : satH x = false := satH_no h.1 h.2
theorem rdiv_err {x d : Int} (hd : 0 < d) : -d ≤ 2 * (d * rdiv x d - x) ∧ 2 * (d * rdiv x d - x) ≤ d := by
  have key : ∀ n k : Nat, 0 < k → -(k : Int) ≤ 2 * ((k : Int) * (((2 * n + k) / (2 * k) : Nat) : Int) - n) ∧ 2 * ((k : Int) * (((2 * n + k) / (2 * k) : Nat) : Int) - n) ≤ k := by
    intro n k hk
    have h1 := Nat.div_add_mod (2 * n + k) (2 * k)
    have h2 := Nat.mod_lt (2 * n + k) (show 0 < 2 * k by omega)
    generalize (2 * n + k) / (2 * k) = q at *
    generalize (2 * n + k) % (2 * k) = r at *
    have h3 : ((2 * k * q + r : Nat) : Int) = ((2 * n + k : Nat) : Int) := by rw [h1]
    rw [Int.natCast_add, Int.natCast_mul, Int.natCast_mul, Int.natCast_add, Int.natCast_mul, Int.mul_assoc] at h3
    generalize (k : Int) * (q : Int) = z at *
    omega
  have hk : (d.natAbs : Int) = d := by omega
  have h := key x.natAbs d.natAbs (by omega)
  rw [hk] at h
  unfold rdiv
  by_cases hx : 0 ≤ x
  · rw [if_pos (by simp [hx, hd])]
    rw [show (x.natAbs : Int) = x by omega] at h
    exact h
  · rw [if_neg (by simp [hx, hd])]
    rw [show (x.natAbs : Int) = -x by omega] at h
    rw [Int.mul_neg]
    generalize d * (((2 * x.natAbs + d.natAbs) / (2 * d.natAbs) : Nat) : Int) = z at *
    omega
theorem rsh_err (x : Int) : -1073741824 ≤ 2 * (1073741824 * rsh x 30 - x) ∧ 2 * (1073741824 * rsh x 30 - x) ≤ 1073741824 := by
  have h2 : ((2 : Int) ^ 30) = 1073741824 := by decide
  unfold rsh; rw [h2]
  exact rdiv_err (by decide)
theorem mul_bd {x y X Y : Int} (hx : -X ≤ x ∧ x ≤ X) (hy : -Y ≤ y ∧ y ≤ Y) : -(X * Y) ≤ x * y ∧ x * y ≤ X * Y := by
  have hX : 0 ≤ X := by omega
  have hY : 0 ≤ Y := by omega
  have e : ((x * y).natAbs : Int) ≤ X * Y := by
    rw [Int.natAbs_mul, Int.natCast_mul]
    exact Int.mul_le_mul (by omega) (by omega) (by omega) hX
  generalize X * Y = Z at *
  generalize x * y = z at *
  omega
theorem mulV_of {a b : Int} (ha : SB a) (hb : SB b) (h : SB (rsh (a * b) 30)) : mulV a b 30 = rsh (a * b) 30 ∧ mulH a b 30 = false := by
  unfold mulV mulH
  rw [if_neg (by decide), satV_sb ha, satV_sb hb, show (30 : Int).toNat = 30 from rfl, satV_sb h, satH_sb ha, satH_sb hb, satH_sb h]
  exact ⟨rfl, by decide⟩
end Go.Proofs.Ytpoiobgpggiebaa
namespace Go.Proofs.Ytpoiobgpggiebaa
set_option maxRecDepth 100000
/-- The bounds of an output's numbers. -/
def obx (j : Nat) : Int := if j < 8 then 549755813888 else 9007199254740992
theorem boxF_obx {j : Nat} (h1 : 5 ≤ j) (h2 : j < 11) : boxF (j - 1) = obx j := by
  unfold boxF obx
  rw [if_neg (by omega)]
  by_cases h : j < 8
  · rw [if_pos (by omega), if_pos h]
  · rw [if_neg (by omega), if_pos (by omega), if_neg h]
theorem obx_bd (j : Nat) : 549755813888 ≤ obx j ∧ obx j ≤ 9007199254740992 := by unfold obx; split <;> omega
theorem keepI_hi7 (X : Nat → Int) {j : Nat} (h : 4 ≤ j) : keepI X j = X j := by
  unfold keepI
  split
  · rfl
  · unfold turnd; rw [if_neg (by omega)]
theorem of_hi (S : Nat → Int) (t : Int) {j : Nat} (h1 : 5 ≤ j) (h2 : j < 11) : ofF S t j = clampV (S (j - 1)) (-(obx j)) (obx j) := by
  rw [ofF_get S t h2, if_neg (by omega)]
  unfold keepF clmF
  rw [if_neg (by omega), keepI_hi7 _ (by omega), boxF_obx h1 h2]
theorem of_bd (S : Nat → Int) (t : Int) {j : Nat} (h1 : 5 ≤ j) (h2 : j < 11) : -(obx j) ≤ ofF S t j ∧ ofF S t j ≤ obx j := by
  rw [of_hi S t h1 h2]
  exact clampV_box _ _ (by have := obx_bd j; omega)
theorem po_hi (Z X : Nat → Int) (t : Int) {j : Nat} (h1 : 5 ≤ j) (h2 : j < 11) : ofF (poF Z X) t j = clampV (X j) (-(obx j)) (obx j) := by
  rw [of_hi _ _ h1 h2, poF_get, if_pos (by omega), show 1 + (j - 1) = j by omega]
theorem po_in (Z X : Nat → Int) (t : Int) {j : Nat} (h1 : 5 ≤ j) (h2 : j < 11) (h : -(obx j) ≤ X j ∧ X j ≤ obx j) : ofF (poF Z X) t j = X j := by
  rw [po_hi Z X t h1 h2]; exact (clampV_id h).1
theorem sum2 (A : Nat → Int) : satV (sumS A 2) = addV (A 0) (A 1) := by
  unfold addV; simp [sumS]
theorem putF_at {f F : Nat → Int} {o n i : Nat} (h : o ≤ i ∧ i < o + n) : putF f o n F i = F (i - o) := by unfold putF; rw [if_pos h]
theorem putF_no {f F : Nat → Int} {o n i : Nat} (h : ¬ (o ≤ i ∧ i < o + n)) : putF f o n F i = f i := by unfold putF; rw [if_neg h]
theorem co_v (g : Int) (DV DP TU O : Nat → Int) {j : Nat} (h1 : 5 ≤ j) (h2 : j < 8) : coF g DV DP TU O j = addV (O j) (mulV (DV (j - 5)) g 30) := by
  unfold coF
  (try simp only)
  rw [putF_no (by omega), putF_no (by omega), putF_at (by omega)]
  unfold vaV coV
  rw [sum2]
  simp only [v2L]
  rw [show 5 + (j - 5) = j by omega]
theorem co_p (g : Int) (DV DP TU O : Nat → Int) {j : Nat} (h1 : 8 ≤ j) (h2 : j < 11) : coF g DV DP TU O j = addV (O j) (mulV (DP (j - 8)) g 30) := by
  unfold coF
  (try simp only)
  rw [putF_no (by omega), putF_at (by omega)]
  unfold vaV
  rw [sum2]
  unfold coV
  simp only [v2L]
  rw [putF_no (by omega), show 8 + (j - 8) = j by omega]
/-- The difference of two numbers of the same place, by its part. -/
theorem dmul {e o g : Int} (he : -9007199254740992 ≤ e ∧ e ≤ 9007199254740992) (ho : -9007199254740992 ≤ o ∧ o ≤ 9007199254740992) (hg : 0 ≤ g ∧ g ≤ 1073741824) :
    subV e o = e - o ∧ mulV (e - o) g 30 = rsh ((e - o) * g) 30 ∧ addV o (rsh ((e - o) * g) 30) = o + rsh ((e - o) * g) 30 ∧ -1152921504606846976 ≤ o + rsh ((e - o) * g) 30 ∧ o + rsh ((e - o) * g) 30 ≤ 1152921504606846976 := by
  have s1 : SB e := ⟨by omega, by omega⟩
  have s2 : SB o := ⟨by omega, by omega⟩
  have s3 : SB (e - o) := ⟨by omega, by omega⟩
  have s4 : SB g := ⟨by omega, by omega⟩
  have hm := mul_bd (x := e - o) (y := g) (X := 18014398509481984) (Y := 1073741824) ⟨by omega, by omega⟩ ⟨by omega, by omega⟩
  have hr := rsh_err ((e - o) * g)
  have s5 : SB (rsh ((e - o) * g) 30) := ⟨by omega, by omega⟩
  have s6 : SB (o + rsh ((e - o) * g) 30) := ⟨by omega, by omega⟩
  refine ⟨?_, (mulV_of s3 s4 s5).1, ?_, s6.1, s6.2⟩
  · unfold subV; rw [satV_sb s1, satV_sb s2, satV_sb s3]
  · unfold addV; rw [satV_sb s2, satV_sb s5, satV_sb s6]
theorem rsh_oneg (x : Int) : rsh (x * 1073741824) 30 = x := by
  have := rsh_err (x * 1073741824)
  omega
theorem obx_in {x : Int} {j : Nat} (h : -(obx j) ≤ x ∧ x ≤ obx j) : -9007199254740992 ≤ x ∧ x ≤ 9007199254740992 := by have := obx_bd j; omega
theorem cr_hi (g : Int) (E O X : Nat → Int) {j : Nat} (h1 : 5 ≤ j) (h2 : j < 11) : crF g E O X j = addV (X j) (mulV (subV (E j) (O j)) g 30) := by
  unfold crF
  by_cases h : j < 8
  · rw [co_v _ _ _ _ _ h1 h]; unfold crD; rw [show 5 + (j - 5) = j by omega]
  · rw [co_p _ _ _ _ _ (by omega) h2]; unfold crD; rw [show 8 + (j - 8) = j by omega]
/-- With the part One an output becomes the estimate's own. -/
theorem times_eq (S S0 : Nat → Int) (t t0 : Int) {j : Nat} (h1 : 5 ≤ j) (h2 : j < 11) : eaF (crF 1073741824 (ofF S t) (ofF S0 t0)) (ofF S0 t0) j = ofF S t j := by
  have hE := of_bd S t h1 h2
  have hO := of_bd S0 t0 h1 h2
  have hc := cr_hi 1073741824 (ofF S t) (ofF S0 t0) (ofF S0 t0) h1 h2
  obtain ⟨d1, d2, d3, _, _⟩ := dmul (obx_in hE) (obx_in hO) (g := 1073741824) (by omega)
  rw [d1, d2, rsh_oneg] at hc
  rw [rsh_oneg] at d3
  rw [d3, show ofF S0 t0 j + (ofF S t j - ofF S0 t0 j) = ofF S t j by omega] at hc
  unfold eaF
  rw [po_in _ _ _ h1 h2 (by rw [hc]; exact hE), hc]
end Go.Proofs.Ytpoiobgpggiebaa
