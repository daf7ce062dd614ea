/- What a step reads of its arguments; an upright body's step. No program. -/
import Derived.Test.YtnnjcdbliaecgaaS01
namespace Go.Proofs.Ytnnjcdbliaecgaa
theorem ur_dotS {A B A' B' : Nat → Int} : ∀ {n : Nat}, (∀ i, i < n → A i = A' i ∧ B i = B' i) → dotS A B n = dotS A' B' n
  | 0, _ => rfl
  | n + 1, h => by simp only [dotS]; rw [ur_dotS fun i hi => h i (by omega), (h n (by omega)).1, (h n (by omega)).2]
theorem ur_dotB {A B A' B' : Nat → Int} : ∀ {n : Nat}, (∀ i, i < n → A i = A' i ∧ B i = B' i) → dotB A B n = dotB A' B' n
  | 0, _ => rfl
  | n + 1, h => by simp only [dotB]; rw [ur_dotB fun i hi => h i (by omega), (h n (by omega)).1, (h n (by omega)).2]
theorem ur_dot {A B A' B' : Nat → Int} {n : Nat} (h : ∀ i, i < n → A i = A' i ∧ B i = B' i) : dotV 30 A B n = dotV 30 A' B' n ∧ dotH 30 A B n = dotH 30 A' B' n := by
  unfold dotV dotH; rw [ur_dotS h, ur_dotB h]; exact ⟨rfl, rfl⟩
theorem ur_orB {p q : Nat → Bool} : ∀ {n : Nat}, (∀ i, i < n → p i = q i) → orB p n = orB q n
  | 0, _ => rfl
  | n + 1, h => by simp only [orB]; rw [ur_orB fun i hi => h i (by omega), h n (by omega)]
theorem ur_hyp {A B : Nat → Int} {n : Nat} (h : ∀ i, i < n → A i = B i) : hypV A n = hypV B n ∧ hypH A n = hypH B n := by
  unfold hypV hypH
  rw [ur_dotS fun i hi => ⟨h i hi, h i hi⟩, ur_orB fun i hi => by rw [h i hi]]; exact ⟨rfl, rfl⟩
section
variable {A B : Nat → Int} (h : ∀ i, i < 4 → A i = B i)
include h
theorem ur_uniT : (∀ i, i < 4 → uniT A i = uniT B i) ∧ uniTH A = uniTH B := by
  refine ⟨fun i hi => by unfold uniT; rw [h i hi, (ur_hyp h).1], ?_⟩
  unfold uniTH; rw [(ur_hyp h).1, (ur_hyp h).2, ur_orB fun i hi => by rw [h i hi]]
theorem ur_satA : ∀ i, i < 4 → satA A i = satA B i := fun i hi => by unfold satA; rw [h i hi]
theorem ur_zer : zer4 A = zer4 B := by unfold zer4; rw [h 0 (by omega), h 1 (by omega), h 2 (by omega), h 3 (by omega)]
theorem ur_uni : (∀ i, i < 4 → uniV A i = uniV B i) ∧ uniH A = uniH B := by
  have s := ur_satA h
  have z := ur_zer s
  have u := ur_uniT s
  have v := ur_uniT u.1
  constructor
  · intro i hi
    unfold uniV
    rw [z]
    by_cases hz : zer4 (satA B) = true
    · rw [if_pos hz, if_pos hz]
    · rw [if_neg hz, if_neg hz]; exact v.1 i hi
  · unfold uniH; rw [z, u.2, v.2, ur_orB fun i hi => by rw [h i hi]]
theorem ur_qmR (r : Nat) : qmR A r = qmR B r := by
  have h0 := h 0 (by decide)
  have h1 := h 1 (by decide)
  have h2 := h 2 (by decide)
  have h3 := h 3 (by decide)
  unfold qmR
  split <;> rw [h0, h1, h2, h3]
end
theorem ur_qm {A A' B B' : Nat → Int} (h : ∀ i, i < 4 → A i = A' i) (k : ∀ i, i < 4 → B i = B' i) : (∀ r, qmV A B r = qmV A' B' r) ∧ qmH A B = qmH A' B' := by
  have hs := ur_satA h
  have ks := ur_satA k
  have d : ∀ r, dotV 30 (satA A) (qmR (satA B) r) 4 = dotV 30 (satA A') (qmR (satA B') r) 4 ∧ dotH 30 (satA A) (qmR (satA B) r) 4 = dotH 30 (satA A') (qmR (satA B') r) 4 := fun r => by
    rw [ur_qmR ks r]; exact ur_dot fun i hi => ⟨hs i hi, rfl⟩
  refine ⟨fun r => (d r).1, ?_⟩
  unfold qmH
  rw [ur_orB fun i hi => by rw [h i hi], ur_orB (n := 4) (p := fun i => satH (B i)) fun i hi => by rw [k i hi], ur_orB (p := fun r => dotH 30 (satA A) (qmR (satA B) r) 4) fun r _ => (d r).2]
/-- Of no angle. -/
theorem ur_exp {v : Nat → Int} (h : ∀ i, i < 3 → v i = 0) : exV v = oneQ ∧ exH v = false := by
  have s : ∀ i, i < 3 → satA v i = (fun _ => 0) i := fun i hi => by unfold satA; rw [h i hi]; rfl
  have hy := ur_hyp s
  have e0 : exU v = 0 := by unfold exU; rw [hy.1]; decide +kernel
  unfold exV exH exH0
  rw [if_pos e0, if_pos e0, hy.2, ur_orB (q := fun _ => satH 0) fun i hi => by rw [h i hi]]
  exact ⟨rfl, by decide +kernel⟩
theorem ur_rsh (e : Int) : rsh (1073741824 * e) 30 = e := by
  have h2 : ((2 : Int) ^ 30) = 1073741824 := by decide
  unfold rsh rdiv
  rw [h2]
  have : (1073741824 * e).natAbs = 1073741824 * e.natAbs := by rw [Int.natAbs_mul]; rfl
  rw [this, show (1073741824 : Int).natAbs = 1073741824 from rfl]
  have e1 : (2 * (1073741824 * e.natAbs) + 1073741824) / (2 * 1073741824) = e.natAbs := by omega
  rw [e1]
  by_cases he : 0 ≤ e
  · rw [if_pos (by simp; omega)]; omega
  · rw [if_neg (by simp; omega)]; omega
end Go.Proofs.Ytnnjcdbliaecgaa
