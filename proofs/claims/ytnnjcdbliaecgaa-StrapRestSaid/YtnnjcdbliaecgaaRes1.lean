/- A body that heads somewhere, and is level: its step at rest (plain law, 1). No program. -/
import Derived.Test.YtnnjcdbliaecgaaUpr3
namespace Go.Proofs.Ytnnjcdbliaecgaa
theorem rs_div0 (b : Int) : divV 0 b 30 = 0 := by
  unfold divV byV
  rw [if_neg (by decide), show satV 0 = 0 by decide, Int.zero_mul]
  by_cases h : satV b = 0
  · rw [if_pos h, if_pos rfl]
  · rw [if_neg h]
    have e : rdiv 0 (satV b) = 0 := by
      unfold rdiv
      have : (2 * (0 : Int).natAbs + (satV b).natAbs) / (2 * (satV b).natAbs) = 0 := Nat.div_eq_of_lt (by have := Int.natAbs_pos.2 h; simp; omega)
      rw [this]
      split <;> rfl
    rw [e]; decide
/-- A nought stays one. -/
theorem rs_uni0 {A : Nat → Int} {i : Nat} (h : A i = 0) (hi : i ≠ 0) : uniV A i = 0 := by
  unfold uniV
  have s : satA A i = 0 := by unfold satA; rw [h]; decide
  by_cases z : zer4 (satA A) = true
  · rw [if_pos z]; unfold oneQ; rw [if_neg hi]
  · rw [if_neg z]
    have u : uniT (satA A) i = 0 := by unfold uniT; rw [s]; exact rs_div0 _
    show divV (uniT (satA A) i) _ 30 = 0
    rw [u]; exact rs_div0 _
/-- By One. -/
theorem rs_qm {S T : Nat → Int} (b : ∀ i, i < 4 → SB (S i)) (k : ∀ i, i < 4 → T i = oneQ i) : (∀ r, r < 4 → qmV S T r = S r) ∧ qmH S T = false := by
  have e := ur_qm (A := S) (A' := S) (B := T) (B' := oneQ) (fun _ _ => rfl) k
  have b0 := b 0 (by decide)
  have b1 := b 1 (by decide)
  have b2 := b 2 (by decide)
  have b3 := b 3 (by decide)
  have o : satV 1073741824 = 1073741824 ∧ satH 1073741824 = false ∧ satV 0 = 0 ∧ satH 0 = false := by decide
  have t : ∀ x, satV (satV x) = satV x ∧ satH (satV x) = false := fun x => ⟨satV_id (satV_bd x).1 (satV_bd x).2, satH_no (satV_bd x).1 (satV_bd x).2⟩
  have d : ∀ r, r < 4 → dotV 30 (satA S) (qmR (satA oneQ) r) 4 = S r ∧ dotH 30 (satA S) (qmR (satA oneQ) r) 4 = false := fun r hr => by
    unfold dotV dotH
    rw [if_neg (by decide), if_neg (by decide)]
    obtain rfl | rfl | rfl | rfl : r = 0 ∨ r = 1 ∨ r = 2 ∨ r = 3 := by omega
    all_goals
      simp only [dotS, dotB, satA, qmR, q4, oneQ]
      simp [o, satV_sb b0, satV_sb b1, satV_sb b2, satV_sb b3, satH_sb b0, satH_sb b1, satH_sb b2, satH_sb b3, Int.mul_comm _ 1073741824, ur_rsh]
  refine ⟨fun r hr => by rw [e.1 r]; exact (d r hr).1, ?_⟩
  rw [e.2]
  unfold qmH
  rw [orB_noB fun i hi => satH_sb (b i hi), orB_noB (p := fun r => dotH 30 (satA S) (qmR (satA oneQ) r) 4) fun r hr => (d r hr).2]
  decide
end Go.Proofs.Ytnnjcdbliaecgaa
