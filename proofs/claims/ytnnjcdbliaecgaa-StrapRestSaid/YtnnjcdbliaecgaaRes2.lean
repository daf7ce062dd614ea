/- A level body's matrix (plain law, 2). No program. -/
import Derived.Test.YtnnjcdbliaecgaaRes1
namespace Go.Proofs.Ytnnjcdbliaecgaa
/-- Of noughts but the last, turned: the last column alone. -/
theorem rs_ap {M V : Nat → Int} (h0 : V 0 = 0) (h1 : V 1 = 0) (h2 : SB (V 2)) (hM : ∀ k, k < 9 → SB (M k)) : ∀ i, i < 3 → apV M V i = satV (rsh (M (3 * i + 2) * V 2) 30) ∧ dotH 30 (fun k => M (3 * i + k)) V 3 = satH (rsh (M (3 * i + 2) * V 2) 30) := fun i hi => by
  have a := hM (3 * i + 2) (by omega)
  have b := satH_sb (hM (3 * i) (by omega))
  have c := satH_sb (hM (3 * i + 1) (by omega))
  have o : satV 0 = 0 ∧ satH 0 = false := by decide
  unfold apV dotV dotH
  rw [if_neg (by decide), if_neg (by decide)]
  simp only [dotS, dotB]
  simp [h0, h1, o, satV_sb a, satV_sb h2, satH_sb a, satH_sb h2, b, c]
/-- The last column of a level attitude. -/
theorem rs_ro {A : Nat → Int} (h1 : A 1 = 0) (h2 : A 2 = 0) (u : UnitQ A) : roV A 2 = 0 ∧ roV A 5 = 0 ∧ (1073741819 ≤ roV A 8 ∧ roV A 8 ≤ 1073741829) := by
  have b0 := u.1 0 (by decide)
  have b3 := u.1 3 (by decide)
  have q := u.2
  rw [h1, h2] at q
  have s0 : satV (A 0) = A 0 := satV_id (by omega) (by omega)
  have s3 : satV (A 3) = A 3 := satV_id (by omega) (by omega)
  have n3 : satV (-A 3) = -A 3 := satV_id (by omega) (by omega)
  have n0 : satV (-A 0) = -A 0 := satV_id (by omega) (by omega)
  have o : satV 0 = 0 := by decide
  unfold roV roN dotV
  rw [if_neg (by decide), if_neg (by decide), if_neg (by decide)]
  have e2 : dotS (roA (satA A) 2) (roB (satA A) 2) 4 = 0 := by
    simp [dotS, roA, roB, q4, satA, h1, h2, o]
  have e5 : dotS (roA (satA A) 5) (roB (satA A) 5) 4 = 0 := by
    simp [dotS, roA, roB, q4, satA, h1, h2, o]
  have e8 : dotS (roA (satA A) 8) (roB (satA A) 8) 4 = A 0 * A 0 + A 3 * A 3 := by
    simp [dotS, roA, roB, q4, satA, h1, h2, o, s0, s3]
  rw [e2, e5, e8]
  have r := rsh_err (A 0 * A 0 + A 3 * A 3)
  rw [show (30 : Int).toNat = 30 from rfl]
  have rb : 1073741819 ≤ rsh (A 0 * A 0 + A 3 * A 3) 30 ∧ rsh (A 0 * A 0 + A 3 * A 3) 30 ≤ 1073741829 := by
    generalize A 0 * A 0 = x at *
    generalize A 3 * A 3 = y at *
    generalize rsh (x + y) 30 = z at *
    omega
  refine ⟨by decide, by decide, ?_⟩
  rw [satV_id (by omega) (by omega)]
  exact rb
end Go.Proofs.Ytnnjcdbliaecgaa
