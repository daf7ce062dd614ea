/- An upright body's step. No program. -/
import Derived.Test.YtnnjcdbliaecgaaUpr1
namespace Go.Proofs.Ytnnjcdbliaecgaa
theorem ur_sumS {A B : Nat → Int} : ∀ {n : Nat}, (∀ i, i < n → A i = B i) → sumS A n = sumS B n ∧ sumB A n = sumB B n
  | 0, _ => ⟨rfl, rfl⟩
  | n + 1, h => by
    simp only [sumS, sumB]
    rw [(ur_sumS fun i hi => h i (by omega)).1, (ur_sumS fun i hi => h i (by omega)).2, h n (by omega)]
    exact ⟨rfl, rfl⟩
theorem ur_va {L M : Nat → Nat → Int} {n k : Nat} (h : ∀ j, j < n → L j k = M j k) : vaV L n k = vaV M n k ∧ vaH L n k = vaH M n k := by
  unfold vaV vaH
  rw [(ur_sumS h).1, (ur_sumS h).2]; exact ⟨rfl, rfl⟩
theorem ur_v3 {A B C A' B' C' : Nat → Int} {k : Nat} (a : A k = A' k) (b : B k = B' k) (c : C k = C' k) : ∀ j, j < 3 → v3L A B C j k = v3L A' B' C' j k := fun j hj => by
  obtain rfl | rfl | rfl : j = 0 ∨ j = 1 ∨ j = 2 := by omega
  · exact a
  · exact b
  · exact c
theorem ur_v2 {A B A' B' : Nat → Int} {k : Nat} (a : A k = A' k) (b : B k = B' k) : ∀ j, j < 2 → v2L A B j k = v2L A' B' j k := fun j hj => by
  obtain rfl | rfl : j = 0 ∨ j = 1 := by omega
  · exact a
  · exact b
theorem putF_in {f F : Nat → Int} {o n i : Nat} (h : o ≤ i) (h2 : i < o + n) : putF f o n F i = F (i - o) := by unfold putF; rw [if_pos ⟨h, h2⟩]
theorem putF_out {f F : Nat → Int} {o n i : Nat} (h : i < o ∨ o + n ≤ i) : putF f o n F i = f i := by unfold putF; rw [if_neg (by omega)]
/-- A sample's parts. -/
theorem spF_at (S I : Nat → Int) : spF S I 0 = secV (I 1) ∧ (∀ k, k < 3 → spF S I (4 + k) = spA S I 13 5 (secV (I 1)) k) ∧ (∀ k, k < 4 → spF S I (7 + k) = exV (spA S I 10 2 (secV (I 1))) k) ∧ (∀ k, k < 9 → spF S I (11 + k) = roV S k) := by
  unfold spF
  obtain ⟨t, ht⟩ : ∃ t, secV (I 1) = t := ⟨_, rfl⟩
  rw [ht]
  obtain ⟨X1, h1⟩ : ∃ X, spA S I 10 2 t = X := ⟨_, rfl⟩
  obtain ⟨X2, h2⟩ : ∃ X, spA S I 13 5 t = X := ⟨_, rfl⟩
  obtain ⟨X3, h3⟩ : ∃ X, exV X1 = X := ⟨_, rfl⟩
  obtain ⟨X4, h4⟩ : ∃ X, roV S = X := ⟨_, rfl⟩
  rw [h1, h2, h3, h4]
  clear h1 h2 h3 h4 ht
  refine ⟨?_, fun k hk => ?_, fun k hk => ?_, fun k hk => ?_⟩
  · rw [putF_out (by omega), putF_out (by omega), putF_out (by omega), putF_out (by omega)]; exact if_pos rfl
  · rw [putF_out (by omega), putF_out (by omega), putF_in (by omega) (by omega), show 4 + k - 4 = k by omega]
  · rw [putF_out (by omega), putF_in (by omega) (by omega), show 7 + k - 7 = k by omega]
  · rw [putF_in (by omega) (by omega), show 11 + k - 11 = k by omega]
/-- What the velocity becomes, what is gone through. -/
def upN (S D : Nat → Int) (dt : Int) : Nat → Int := vaV (v3L (partF S 4) D (vc3 0 0 (mulV 10529810258 dt 30))) 3
def upM (S D : Nat → Int) (dt : Int) : Nat → Int := vaV (v2L (partF S 4) (upN S D dt)) 2
def upL (S D : Nat → Int) (dt : Int) : Nat → Int := fun i => mulV (upM S D dt i) (mulV dt 536870912 30) 30
def upX (S D : Nat → Int) (dt : Int) : Nat → Int := vaV (v2L (partF S 7) (upL S D dt)) 2
def upS (S D : Nat → Int) (dt : Int) : Nat → Int := fun i => if i < 4 then oneS i else if i < 7 then upN S D dt (i - 4) else if i < 10 then upX S D dt (i - 7) else S i
def upH (S D : Nat → Int) (dt : Int) : Bool := mulH 10529810258 dt 30 || orB (vaH (v3L (partF S 4) D (vc3 0 0 (mulV 10529810258 dt 30))) 3) 3 || mulH dt 536870912 30 || orB (vaH (v2L (partF S 4) (upN S D dt)) 2) 3 || orB (fun i => mulH (upM S D dt i) (mulV dt 536870912 30) 30) 3 || orB (vaH (v2L (partF S 7) (upL S D dt)) 2) 3 || keepH (upS S D dt)
set_option maxRecDepth 100000 in
theorem ur_one : (∀ i, i < 4 → uniV (qmV oneS oneQ) i = oneS i) ∧ qmH oneS oneQ = false ∧ uniH (qmV oneS oneQ) = false ∧ (∀ k, k < 9 → roV oneS k = id9 k) ∧ roH oneS = false := by decide +kernel
theorem boxF_hi {i : Nat} (h : 24 ≤ i) : boxF i = 137438953472 := by
  unfold boxF; rw [if_neg (by omega), if_neg (by omega), if_neg (by omega), if_neg (by omega), if_neg (by omega), if_neg (by omega)]
/-- What is good, and nought beyond, is kept as it is. -/
theorem keep_self {S : Nat → Int} (hg : goodB S = true) (hz : ∀ i, 24 ≤ i → S i = 0) : keepF S = S ∧ keepH S = false := by
  have k := keep_fix hg
  refine ⟨funext fun i => ?_, k.2⟩
  by_cases hi : i < 24
  · exact k.1 i hi
  · have hu := (good_parts hg).2
    unfold keepF keepI clmF
    rw [if_pos hu, if_neg (by omega), hz i (by omega), boxF_hi (by omega)]
    decide
/-- The step of a body that stands upright, and does not turn. -/
theorem up_step {S I D : Nat → Int} {dt : Int} (hS : ∀ i, i < 4 → S i = oneS i) (hg : goodB S = true) (hz : ∀ i, 24 ≤ i → S i = 0) (hdt : secV (I 1) = dt)
    (hA : ∀ k, k < 3 → spA S I 10 2 dt k = 0) (hD : ∀ k, k < 3 → spA S I 13 5 dt k = D k) (bD : ∀ k, k < 3 → -1152921504606846976 ≤ D k ∧ D k ≤ 1152921504606846976) :
    stepN S I = keepF (upS S D dt) ∧ stepH2 S I = (secH (I 1) || spAH S I 10 2 dt || spAH S I 13 5 dt || upH S D dt) := by
  have kp := keep_self hg hz
  obtain ⟨f0, f4, f7, f11⟩ := spF_at S I
  rw [hdt] at f0 f4 f7
  have ex := ur_exp hA
  have ro := ur_ro hS
  have r9 : ∀ k, k < 9 → (fun i => spF S I (11 + i)) k = id9 k := fun k hk => by
    show spF S I (11 + k) = id9 k
    rw [f11 k hk, ro.1 k, ur_one.2.2.2.1 k hk]
  have tu : ∀ i, i < 4 → (fun i => spF S I (7 + i)) i = oneQ i := fun i hi => by
    show spF S I (7 + i) = oneQ i
    rw [f7 i hi, ex.1]
  have dv : ∀ i, i < 3 → (fun i => spF S I (4 + i)) i = D i := fun i hi => by
    show spF S I (4 + i) = D i
    rw [f4 i hi, hD i hi]
  have qm := ur_qm hS tu
  have un := ur_uni (A := qmV S (fun i => spF S I (7 + i))) (B := qmV oneS oneQ) fun i _ => qm.1 i
  have ap := ur_ap r9 (V := fun i => spF S I (4 + i)) (fun i hi => by have e := dv i hi; dsimp only at e; rw [e]; exact bD i hi)
  have eA : ∀ i, i < 3 → stA (spF S I) i = D i := fun i hi => by unfold stA; rw [ap.1 i hi]; exact dv i hi
  have eG : stG (spF S I) = vc3 0 0 (mulV 10529810258 dt 30) := by unfold stG; rw [f0]
  have eN : ∀ i, i < 3 → stN S (spF S I) i = upN S D dt i ∧ vaH (v3L (partF S 4) (stA (spF S I)) (stG (spF S I))) 3 i = vaH (v3L (partF S 4) D (vc3 0 0 (mulV 10529810258 dt 30))) 3 i := fun i hi => by
    unfold stN upN; exact ur_va (ur_v3 rfl (eA i hi) (by rw [eG]))
  have eF : stF (spF S I) = mulV dt 536870912 30 := by unfold stF; rw [f0]
  have eM : ∀ i, i < 3 → stM S (spF S I) i = upM S D dt i ∧ vaH (v2L (partF S 4) (stN S (spF S I))) 2 i = vaH (v2L (partF S 4) (upN S D dt)) 2 i := fun i hi => by
    unfold stM upM; exact ur_va (ur_v2 rfl (eN i hi).1)
  have eL : ∀ i, i < 3 → stL S (spF S I) i = upL S D dt i := fun i hi => by unfold stL upL; rw [(eM i hi).1, eF]
  have eX : ∀ i, i < 3 → stX S (spF S I) i = upX S D dt i ∧ vaH (v2L (partF S 7) (stL S (spF S I))) 2 i = vaH (v2L (partF S 7) (upL S D dt)) 2 i := fun i hi => by
    unfold stX upX; exact ur_va (ur_v2 rfl (eL i hi))
  have eS : stS S (spF S I) = upS S D dt := by
    funext i
    unfold stS upS withF
    by_cases h1 : i < 4
    · rw [if_neg (by omega), if_neg (by omega), if_pos (by omega), if_pos h1, show ((i : Int) - 0).toNat = i by omega]
      unfold stQ
      rw [un.1 i h1, ur_one.1 i h1]
    · rw [if_neg h1]
      by_cases h2 : i < 7
      · rw [if_neg (by omega), if_pos (by omega), if_pos h2, show ((i : Int) - 4).toNat = i - 4 by omega, (eN (i - 4) (by omega)).1]
      · rw [if_neg h2]
        by_cases h3 : i < 10
        · rw [if_pos (by omega), if_pos h3, show ((i : Int) - 7).toNat = i - 7 by omega, (eX (i - 7) (by omega)).1]
        · rw [if_neg (by omega), if_neg (by omega), if_neg (by omega), if_neg h3]
  unfold stepN stepH2
  rw [kp.1, kp.2, eS]
  refine ⟨rfl, ?_⟩
  unfold spH stHH upH
  rw [hdt, ex.2, ro.2, ur_one.2.2.2.2, qm.2, ur_one.2.1, un.2, ur_one.2.2.1, ap.2, f0, eS,
    ur_orB (p := vaH (v3L (partF S 4) (stA (spF S I)) (stG (spF S I))) 3) fun i hi => (eN i hi).2,
    ur_orB (p := vaH (v2L (partF S 4) (stN S (spF S I))) 2) fun i hi => (eM i hi).2,
    ur_orB (p := fun i => mulH (stM S (spF S I) i) (stF (spF S I)) 30) (q := fun i => mulH (upM S D dt i) (mulV dt 536870912 30) 30) fun i hi => by rw [(eM i hi).1, eF],
    ur_orB (p := vaH (v2L (partF S 7) (stL S (spF S I))) 2) fun i hi => (eX i hi).2]
  simp only [Bool.false_or, Bool.or_false, Bool.or_assoc]
end Go.Proofs.Ytnnjcdbliaecgaa
