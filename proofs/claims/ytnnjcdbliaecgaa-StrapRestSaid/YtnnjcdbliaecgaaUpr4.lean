/- Rest with known biases: the step changes nothing (plain law). No program. -/
import Derived.Test.YtnnjcdbliaecgaaUpr3
namespace Go.Proofs.Ytnnjcdbliaecgaa
theorem partF_at (S : Nat → Int) (a k : Nat) (h : a + k < 24) : partF S a k = S (a + k) := by
  unfold partF
  rw [if_pos (by omega), show ((a : Int) + (k : Int)).toNat = a + k by omega]
theorem box_at (i : Nat) : (i < 10 → 4 ≤ i → 549755813888 ≤ boxF i) ∧ (7 ≤ i → i < 10 → boxF i = 9007199254740992) ∧ (10 ≤ i → i < 13 → boxF i = 134217728) ∧ (13 ≤ i → i < 16 → boxF i = 1073741824) ∧ 134217728 ≤ boxF i := by
  unfold boxF
  repeat' split
  all_goals omega
end Go.Proofs.Ytnnjcdbliaecgaa
