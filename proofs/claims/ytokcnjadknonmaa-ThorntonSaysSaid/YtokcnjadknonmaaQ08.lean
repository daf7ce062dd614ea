/- Contracts of the program's functions and plain laws, part 8: they hold for all arguments. -/
import Derived.Test.YtokcnjadknonmaaQ07
import Derived.Test.YtokcnjadknonmaaQ01
/- Contracts of the reference's scalars (5): shifted. -/
namespace Go.Proofs.Ytokcnjadknonmaa
open Go.RowKit
set_option maxRecDepth 100000

theorem rshift30_any (M : Nat) (m : Bool) (w : World) (hM : M + 536870912 < 340282366920938463463374607431768211456) :
    Calls Try.prog 68 #[.agg #[.int .u64 (hi64 (M : Int)), .int .u64 (lo64 (M : Int)), .bool m], .int .i64 30] w fun e w' =>
      e = .returned (.agg #[.int .u64 (hi64 (shM M 30 : Nat)), .int .u64 (lo64 (shM M 30 : Nat)), .bool m]) ∧ Below w.heap.size w w' := by
  obtain ⟨T, hT⟩ : ∃ T : Nat, M + 536870912 = T := ⟨_, rfl⟩
  have hsh : shM M 30 = T / 1073741824 := by unfold shM; rw [if_neg (by decide), ← hT]
  have AD := fun w => radd_any M 536870912 m m w hM
  rw [show adM m m M 536870912 = T from by unfold adM; simp [hT], show adS m m M 536870912 = m from by unfold adS; simp] at AD
  rw [show hi64 ((536870912 : Nat) : Int) = 0 from by decide, show lo64 ((536870912 : Nat) : Int) = 536870912 from by decide] at AD
  have AD := Lib.hid AD
  have r1 : hi64 (T : Int) / 1073741824 = hi64 ((T / 1073741824 : Nat) : Int) := by unfold hi64; omega
  have hx : hi64 (T : Int) = ((T / 18446744073709551616 : Nat) : Int) := by unfold hi64; omega
  have hy : lo64 (T : Int) = ((T % 18446744073709551616 : Nat) : Int) := by unfold lo64; omega
  have r2 : bits .or .u64 (lo64 (T : Int) / 1073741824) (IntKind.u64.wrap (hi64 (T : Int) * 17179869184)) = lo64 ((T / 1073741824 : Nat) : Int) := by
    have k := shr_lo_eq (T / 18446744073709551616) (T % 18446744073709551616) 30 (by decide) (by omega)
    rw [show T / 18446744073709551616 * 18446744073709551616 + T % 18446744073709551616 = T from by omega] at k
    rw [hx, hy, IntKind.wrap_u64]
    rw [show (((T % 18446744073709551616 : Nat) : Int) / 1073741824) = ((T % 18446744073709551616 / 1073741824 : Nat) : Int) from by omega]
    rw [show (((T / 18446744073709551616 : Nat) : Int) * 17179869184 % 18446744073709551616) = ((T / 18446744073709551616 * 17179869184 % 18446744073709551616 : Nat) : Int) from by omega]
    rw [bits_or_u64_nat _ _ (by omega) (by omega), Nat.or_comm]
    unfold lo64
    rw [show (2 : Nat) ^ 30 = 1073741824 from rfl, show (2 : Nat) ^ (64 - 30) = 17179869184 from rfl] at k
    rw [← k]
    omega
  obtain ⟨u, hu⟩ : ∃ u, hi64 ((T / 1073741824 : Nat) : Int) = u := ⟨_, rfl⟩
  obtain ⟨v, hv⟩ : ∃ v, lo64 ((T / 1073741824 : Nat) : Int) = v := ⟨_, rfl⟩
  rw [hu] at r1
  rw [hv] at r2
  have HS := Lib.hid (And.intro hsh (And.intro hu hv))
  clear hsh hx hy hM hT hu hv
  go_enter Try.func68, Try.ntmps68
  go_wp2_with fail
  refine (AD.out _).mono ?_; rintro e w1 ⟨rfl, hb1⟩
  have hb1z0 : w.heap.size < w1.heap.size := by have := hb1.size; (try simp at this); omega
  have hb1z1 : w.heap.size + 1 < w1.heap.size := by have := hb1.size; (try simp at this); omega
  have hb1z2 : w.heap.size + 1 + 1 < w1.heap.size := by have := hb1.size; (try simp at this); omega
  have hb1c0_0 := hb1.cell (p := ⟨w.heap.size, 0, none⟩) (by (try simp); (try omega))
  have hb1f0_0 := hb1.frozen (p := ⟨w.heap.size, 0, none⟩) (by (try simp); (try omega))
  simp [go_sem, *] at hb1c0_0 hb1f0_0
  have hb1c0_1 := hb1.cell (p := ⟨w.heap.size, 1, none⟩) (by (try simp); (try omega))
  have hb1f0_1 := hb1.frozen (p := ⟨w.heap.size, 1, none⟩) (by (try simp); (try omega))
  simp [go_sem, *] at hb1c0_1 hb1f0_1
  have hb1c0_2 := hb1.cell (p := ⟨w.heap.size, 2, none⟩) (by (try simp); (try omega))
  have hb1f0_2 := hb1.frozen (p := ⟨w.heap.size, 2, none⟩) (by (try simp); (try omega))
  simp [go_sem, *] at hb1c0_2 hb1f0_2
  have hb1c1_0 := hb1.cell (p := ⟨w.heap.size + 1, 0, none⟩) (by (try simp); (try omega))
  have hb1f1_0 := hb1.frozen (p := ⟨w.heap.size + 1, 0, none⟩) (by (try simp); (try omega))
  simp [go_sem, *] at hb1c1_0 hb1f1_0
  have hb1c1_1 := hb1.cell (p := ⟨w.heap.size + 1, 1, none⟩) (by (try simp); (try omega))
  have hb1f1_1 := hb1.frozen (p := ⟨w.heap.size + 1, 1, none⟩) (by (try simp); (try omega))
  simp [go_sem, *] at hb1c1_1 hb1f1_1
  have hb1c1_2 := hb1.cell (p := ⟨w.heap.size + 1, 2, none⟩) (by (try simp); (try omega))
  have hb1f1_2 := hb1.frozen (p := ⟨w.heap.size + 1, 2, none⟩) (by (try simp); (try omega))
  simp [go_sem, *] at hb1c1_2 hb1f1_2
  have hb1c2_0 := hb1.cell (p := ⟨w.heap.size + 1 + 1, 0, none⟩) (by (try simp); (try omega))
  have hb1f2_0 := hb1.frozen (p := ⟨w.heap.size + 1 + 1, 0, none⟩) (by (try simp); (try omega))
  simp [go_sem, *] at hb1c2_0 hb1f2_0
  have hb1c2_1 := hb1.cell (p := ⟨w.heap.size + 1 + 1, 1, none⟩) (by (try simp); (try omega))
  have hb1f2_1 := hb1.frozen (p := ⟨w.heap.size + 1 + 1, 1, none⟩) (by (try simp); (try omega))
  simp [go_sem, *] at hb1c2_1 hb1f2_1
  have hb1c2_2 := hb1.cell (p := ⟨w.heap.size + 1 + 1, 2, none⟩) (by (try simp); (try omega))
  have hb1f2_2 := hb1.frozen (p := ⟨w.heap.size + 1 + 1, 2, none⟩) (by (try simp); (try omega))
  simp [go_sem, *] at hb1c2_2 hb1f2_2
  have B1 := Lib.hid (Below.trans (show Below w.heap.size w _ by (repeat (first | with_reducible exact Below.refl _ _ | with_reducible apply Below.drew | (with_reducible refine below_drewN ?_ _) | (with_reducible refine Below.alloc ?_ (by (try simp) <;> omega) _) | (with_reducible refine Below.setCell ?_ (by (try simp) <;> omega) _)))) (hb1.mono (by simp; omega)))
  clear hb1
  go_wp2_with fail
  refine bodyPost_ret (v := .agg #[.int .u64 u, .int .u64 v, .bool m]) (by simp [results, Try.results68, go_sem, *]) rfl ⟨?_, ?_⟩
  · rw [HS.out.1, HS.out.2.1, HS.out.2.2]
  · have hB := B1.out
    (repeat (first | with_reducible exact Below.refl _ _ | with_reducible assumption | with_reducible apply Below.drew | (with_reducible refine below_drewN ?_ _) | (with_reducible refine Below.alloc ?_ (by (try simp) <;> omega) _) | (with_reducible refine Below.setCell ?_ (by (try simp) <;> omega) _) | (with_reducible refine Below.trans ?_ (Below.mono (by assumption) (by (try simp) <;> omega)))))

theorem rshift44_any (M : Nat) (m : Bool) (w : World) (hM : M + 8796093022208 < 340282366920938463463374607431768211456) :
    Calls Try.prog 68 #[.agg #[.int .u64 (hi64 (M : Int)), .int .u64 (lo64 (M : Int)), .bool m], .int .i64 44] w fun e w' =>
      e = .returned (.agg #[.int .u64 (hi64 (shM M 44 : Nat)), .int .u64 (lo64 (shM M 44 : Nat)), .bool m]) ∧ Below w.heap.size w w' := by
  obtain ⟨T, hT⟩ : ∃ T : Nat, M + 8796093022208 = T := ⟨_, rfl⟩
  have hsh : shM M 44 = T / 17592186044416 := by unfold shM; rw [if_neg (by decide), ← hT]
  have AD := fun w => radd_any M 8796093022208 m m w hM
  rw [show adM m m M 8796093022208 = T from by unfold adM; simp [hT], show adS m m M 8796093022208 = m from by unfold adS; simp] at AD
  rw [show hi64 ((8796093022208 : Nat) : Int) = 0 from by decide, show lo64 ((8796093022208 : Nat) : Int) = 8796093022208 from by decide] at AD
  have AD := Lib.hid AD
  have r1 : hi64 (T : Int) / 17592186044416 = hi64 ((T / 17592186044416 : Nat) : Int) := by unfold hi64; omega
  have hx : hi64 (T : Int) = ((T / 18446744073709551616 : Nat) : Int) := by unfold hi64; omega
  have hy : lo64 (T : Int) = ((T % 18446744073709551616 : Nat) : Int) := by unfold lo64; omega
  have r2 : bits .or .u64 (lo64 (T : Int) / 17592186044416) (IntKind.u64.wrap (hi64 (T : Int) * 1048576)) = lo64 ((T / 17592186044416 : Nat) : Int) := by
    have k := shr_lo_eq (T / 18446744073709551616) (T % 18446744073709551616) 44 (by decide) (by omega)
    rw [show T / 18446744073709551616 * 18446744073709551616 + T % 18446744073709551616 = T from by omega] at k
    rw [hx, hy, IntKind.wrap_u64]
    rw [show (((T % 18446744073709551616 : Nat) : Int) / 17592186044416) = ((T % 18446744073709551616 / 17592186044416 : Nat) : Int) from by omega]
    rw [show (((T / 18446744073709551616 : Nat) : Int) * 1048576 % 18446744073709551616) = ((T / 18446744073709551616 * 1048576 % 18446744073709551616 : Nat) : Int) from by omega]
    rw [bits_or_u64_nat _ _ (by omega) (by omega), Nat.or_comm]
    unfold lo64
    rw [show (2 : Nat) ^ 44 = 17592186044416 from rfl, show (2 : Nat) ^ (64 - 44) = 1048576 from rfl] at k
    rw [← k]
    omega
  obtain ⟨u, hu⟩ : ∃ u, hi64 ((T / 17592186044416 : Nat) : Int) = u := ⟨_, rfl⟩
  obtain ⟨v, hv⟩ : ∃ v, lo64 ((T / 17592186044416 : Nat) : Int) = v := ⟨_, rfl⟩
  rw [hu] at r1
  rw [hv] at r2
  have HS := Lib.hid (And.intro hsh (And.intro hu hv))
  clear hsh hx hy hM hT hu hv
  go_enter Try.func68, Try.ntmps68
  go_wp2_with fail
  refine (AD.out _).mono ?_; rintro e w1 ⟨rfl, hb1⟩
  have hb1z0 : w.heap.size < w1.heap.size := by have := hb1.size; (try simp at this); omega
  have hb1z1 : w.heap.size + 1 < w1.heap.size := by have := hb1.size; (try simp at this); omega
  have hb1z2 : w.heap.size + 1 + 1 < w1.heap.size := by have := hb1.size; (try simp at this); omega
  have hb1c0_0 := hb1.cell (p := ⟨w.heap.size, 0, none⟩) (by (try simp); (try omega))
  have hb1f0_0 := hb1.frozen (p := ⟨w.heap.size, 0, none⟩) (by (try simp); (try omega))
  simp [go_sem, *] at hb1c0_0 hb1f0_0
  have hb1c0_1 := hb1.cell (p := ⟨w.heap.size, 1, none⟩) (by (try simp); (try omega))
  have hb1f0_1 := hb1.frozen (p := ⟨w.heap.size, 1, none⟩) (by (try simp); (try omega))
  simp [go_sem, *] at hb1c0_1 hb1f0_1
  have hb1c0_2 := hb1.cell (p := ⟨w.heap.size, 2, none⟩) (by (try simp); (try omega))
  have hb1f0_2 := hb1.frozen (p := ⟨w.heap.size, 2, none⟩) (by (try simp); (try omega))
  simp [go_sem, *] at hb1c0_2 hb1f0_2
  have hb1c1_0 := hb1.cell (p := ⟨w.heap.size + 1, 0, none⟩) (by (try simp); (try omega))
  have hb1f1_0 := hb1.frozen (p := ⟨w.heap.size + 1, 0, none⟩) (by (try simp); (try omega))
  simp [go_sem, *] at hb1c1_0 hb1f1_0
  have hb1c1_1 := hb1.cell (p := ⟨w.heap.size + 1, 1, none⟩) (by (try simp); (try omega))
  have hb1f1_1 := hb1.frozen (p := ⟨w.heap.size + 1, 1, none⟩) (by (try simp); (try omega))
  simp [go_sem, *] at hb1c1_1 hb1f1_1
  have hb1c1_2 := hb1.cell (p := ⟨w.heap.size + 1, 2, none⟩) (by (try simp); (try omega))
  have hb1f1_2 := hb1.frozen (p := ⟨w.heap.size + 1, 2, none⟩) (by (try simp); (try omega))
  simp [go_sem, *] at hb1c1_2 hb1f1_2
  have hb1c2_0 := hb1.cell (p := ⟨w.heap.size + 1 + 1, 0, none⟩) (by (try simp); (try omega))
  have hb1f2_0 := hb1.frozen (p := ⟨w.heap.size + 1 + 1, 0, none⟩) (by (try simp); (try omega))
  simp [go_sem, *] at hb1c2_0 hb1f2_0
  have hb1c2_1 := hb1.cell (p := ⟨w.heap.size + 1 + 1, 1, none⟩) (by (try simp); (try omega))
  have hb1f2_1 := hb1.frozen (p := ⟨w.heap.size + 1 + 1, 1, none⟩) (by (try simp); (try omega))
  simp [go_sem, *] at hb1c2_1 hb1f2_1
  have hb1c2_2 := hb1.cell (p := ⟨w.heap.size + 1 + 1, 2, none⟩) (by (try simp); (try omega))
  have hb1f2_2 := hb1.frozen (p := ⟨w.heap.size + 1 + 1, 2, none⟩) (by (try simp); (try omega))
  simp [go_sem, *] at hb1c2_2 hb1f2_2
  have B1 := Lib.hid (Below.trans (show Below w.heap.size w _ by (repeat (first | with_reducible exact Below.refl _ _ | with_reducible apply Below.drew | (with_reducible refine below_drewN ?_ _) | (with_reducible refine Below.alloc ?_ (by (try simp) <;> omega) _) | (with_reducible refine Below.setCell ?_ (by (try simp) <;> omega) _)))) (hb1.mono (by simp; omega)))
  clear hb1
  go_wp2_with fail
  refine bodyPost_ret (v := .agg #[.int .u64 u, .int .u64 v, .bool m]) (by simp [results, Try.results68, go_sem, *]) rfl ⟨?_, ?_⟩
  · rw [HS.out.1, HS.out.2.1, HS.out.2.2]
  · have hB := B1.out
    (repeat (first | with_reducible exact Below.refl _ _ | with_reducible assumption | with_reducible apply Below.drew | (with_reducible refine below_drewN ?_ _) | (with_reducible refine Below.alloc ?_ (by (try simp) <;> omega) _) | (with_reducible refine Below.setCell ?_ (by (try simp) <;> omega) _) | (with_reducible refine Below.trans ?_ (Below.mono (by assumption) (by (try simp) <;> omega)))))
end Go.Proofs.Ytokcnjadknonmaa
/- The long division of the reference, bit by bit: what a round makes. No program. -/
namespace Go.Proofs.Ytokcnjadknonmaa
theorem half_pow (M j : Nat) : M / 2 ^ (j + 1) = M / 2 ^ j / 2 := by rw [Nat.pow_succ, Nat.div_div_eq_div_mul]
theorem mod_two_int (n : Nat) : bits .and .u64 (n : Int) 1 = ((n % 2 : Nat) : Int) ∨ 18446744073709551616 ≤ n := by
  by_cases h : n < 18446744073709551616
  · refine .inl ?_
    rw [show (1 : Int) = ((1 : Nat) : Int) from rfl, bits_and_u64_nat n 1 h (by decide)]
    rw [show (1 : Nat) = 2 ^ 1 - 1 from rfl, Nat.and_two_pow_sub_one_eq_mod]
  · exact .inr (by omega)
theorem bit_hi (M s : Nat) (hM : M < 340282366920938463463374607431768211456) : bits .and .u64 (hi64 (M : Int) / 2 ^ s) 1 = ((M / 2 ^ (64 + s) % 2 : Nat) : Int) := by
  have e : hi64 (M : Int) / 2 ^ s = ((M / 2 ^ (64 + s) : Nat) : Int) := by
    rw [Nat.pow_add, ← Nat.div_div_eq_div_mul]
    rw [show hi64 (M : Int) = ((M / 2 ^ 64 : Nat) : Int) by unfold hi64; rw [show (2 : Nat) ^ 64 = 18446744073709551616 from rfl]; omega]
    simp
  rw [e]
  rcases mod_two_int (M / 2 ^ (64 + s)) with h | h
  · exact h
  · exfalso
    rw [Nat.pow_add, ← Nat.div_div_eq_div_mul] at h
    have := Nat.div_le_self (M / 2 ^ 64) (2 ^ s)
    rw [show (2 : Nat) ^ 64 = 18446744073709551616 from rfl] at *
    omega
theorem bit_lo (M s : Nat) (hs : s < 64) : bits .and .u64 (lo64 (M : Int) / 2 ^ s) 1 = ((M / 2 ^ s % 2 : Nat) : Int) := by
  have e : lo64 (M : Int) / 2 ^ s = ((M % 2 ^ 64 / 2 ^ s : Nat) : Int) := by
    rw [show lo64 (M : Int) = ((M % 2 ^ 64 : Nat) : Int) by unfold lo64; rw [show (2 : Nat) ^ 64 = 18446744073709551616 from rfl]; omega]
    simp
  have hp : 0 < 2 ^ s := Nat.two_pow_pos s
  have hd : M % 2 ^ 64 / 2 ^ s % 2 = M / 2 ^ s % 2 := by
    obtain ⟨t, ht⟩ : ∃ t, 64 = s + (t + 1) := ⟨63 - s, by omega⟩
    rw [ht, Nat.pow_add, Nat.mod_mul, Nat.add_mul_div_left _ _ hp, Nat.div_eq_of_lt (Nat.mod_lt _ hp), Nat.zero_add, Nat.pow_succ, Nat.mul_comm (2 ^ t), Nat.mod_mul_right_mod]
  rw [e]
  rcases mod_two_int (M % 2 ^ 64 / 2 ^ s) with h | h
  · rw [h, hd]
  · exfalso
    have := Nat.div_le_self (M % 2 ^ 64) (2 ^ s)
    rw [show (2 : Nat) ^ 64 = 18446744073709551616 from rfl] at *
    omega
theorem or_hi (q s : Nat) (hq : q * 2 ^ (64 + s + 1) < 340282366920938463463374607431768211456) (hs : s < 64) :
    bits .or .u64 (hi64 ((q * 2 ^ (64 + s + 1) : Nat) : Int)) (2 ^ s) = hi64 (((2 * q + 1) * 2 ^ (64 + s) : Nat) : Int) ∧ lo64 ((q * 2 ^ (64 + s + 1) : Nat) : Int) = lo64 (((2 * q + 1) * 2 ^ (64 + s) : Nat) : Int) := by
  have e1 : q * 2 ^ (64 + s + 1) = (2 ^ (s + 1) * q) * 18446744073709551616 := by
    rw [show 64 + s + 1 = (s + 1) + 64 by omega, Nat.pow_add, show (2 : Nat) ^ 64 = 18446744073709551616 from rfl, ← Nat.mul_assoc, Nat.mul_comm q]
  have e2 : (2 * q + 1) * 2 ^ (64 + s) = (2 ^ (s + 1) * q + 2 ^ s) * 18446744073709551616 := by
    rw [show 64 + s = s + 64 by omega, Nat.pow_add, show (2 : Nat) ^ 64 = 18446744073709551616 from rfl, ← Nat.mul_assoc, Nat.pow_succ]
    congr 1
    rw [Nat.add_mul, Nat.one_mul, Nat.mul_assoc 2, Nat.mul_comm (2 ^ s) 2, Nat.mul_assoc 2, Nat.mul_comm q]
  have hl : 2 ^ s < 2 ^ (s + 1) := Nat.pow_lt_pow_right (by decide) (by omega)
  have hl2 : 2 ^ s < 18446744073709551616 := by rw [show 18446744073709551616 = 2 ^ 64 from rfl]; exact Nat.pow_lt_pow_right (by decide) hs
  have h3 := Nat.two_pow_add_eq_or_of_lt hl q
  rw [e1] at hq ⊢
  rw [e2]
  rw [show (2 : Int) ^ s = ((2 ^ s : Nat) : Int) by simp]
  generalize 2 ^ (s + 1) * q = A at *
  generalize 2 ^ s = B at *
  refine ⟨?_, ?_⟩
  · rw [show hi64 ((A * 18446744073709551616 : Nat) : Int) = (A : Int) by unfold hi64; omega, bits_or_u64_nat _ _ (by omega) hl2, ← h3]
    unfold hi64; omega
  · unfold lo64; omega
theorem or_lo (q s : Nat) (_hq : q * 2 ^ (s + 1) < 340282366920938463463374607431768211456) (hs : s < 64) :
    bits .or .u64 (lo64 ((q * 2 ^ (s + 1) : Nat) : Int)) (2 ^ s) = lo64 (((2 * q + 1) * 2 ^ s : Nat) : Int) ∧ hi64 ((q * 2 ^ (s + 1) : Nat) : Int) = hi64 (((2 * q + 1) * 2 ^ s : Nat) : Int) := by
  obtain ⟨t, ht⟩ : ∃ t, 64 = (s + 1) + t := ⟨63 - s, by omega⟩
  have e0 : (2 * q + 1) * 2 ^ s = q * 2 ^ (s + 1) + 2 ^ s := by rw [Nat.add_mul, Nat.one_mul, Nat.pow_succ, Nat.mul_comm (2 ^ s) 2, Nat.mul_assoc, ← Nat.mul_assoc q, Nat.mul_comm q 2, Nat.mul_assoc]
  have hl : 2 ^ s < 2 ^ (s + 1) := Nat.pow_lt_pow_right (by decide) (by omega)
  have hl2 : 2 ^ s < 18446744073709551616 := by rw [show 18446744073709551616 = 2 ^ 64 from rfl]; exact Nat.pow_lt_pow_right (by decide) hs
  have e1 : q * 2 ^ (s + 1) % 18446744073709551616 = 2 ^ (s + 1) * (q % 2 ^ t) := by
    rw [show 18446744073709551616 = 2 ^ (s + 1) * 2 ^ t by rw [← Nat.pow_add, ← ht], Nat.mul_comm q, Nat.mul_mod_mul_left]
  have h3 := Nat.two_pow_add_eq_or_of_lt hl (q % 2 ^ t)
  have h4 : 2 ^ (s + 1) * (q % 2 ^ t) + 2 ^ s < 18446744073709551616 := by
    have h5 : q % 2 ^ t + 1 ≤ 2 ^ t := Nat.mod_lt _ (Nat.two_pow_pos t)
    have h6 : 2 ^ (s + 1) * (q % 2 ^ t + 1) ≤ 2 ^ (s + 1) * 2 ^ t := Nat.mul_le_mul_left _ h5
    rw [← Nat.pow_add, ← ht, Nat.mul_add, Nat.mul_one, show (2 : Nat) ^ 64 = 18446744073709551616 from rfl] at h6
    omega
  rw [e0]
  rw [show (2 : Int) ^ s = ((2 ^ s : Nat) : Int) by simp]
  generalize q * 2 ^ (s + 1) = A at *
  generalize 2 ^ (s + 1) * (q % 2 ^ t) = C at *
  generalize 2 ^ s = B at *
  refine ⟨?_, ?_⟩
  · rw [show lo64 (A : Int) = (C : Int) by unfold lo64; omega, bits_or_u64_nat _ _ (by omega) hl2, ← h3]
    unfold lo64; omega
  · unfold hi64; omega
/-- One more bit. -/
theorem dv_two (T d b H r q : Nat) (hd : 0 < d) (hb : T % 2 = b) (hH : T / 2 = H) (hr : H % d = r) (hq : H / d = q) :
    b < 2 ∧ r < d ∧ (2 * r + b < d → T % d = 2 * r + b ∧ T / d = 2 * q) ∧ (¬ 2 * r + b < d → T % d = 2 * r + b - d ∧ T / d = 2 * q + 1) := by
  have h1 := Nat.mod_lt H hd
  have hm := Nat.div_add_mod H d
  rw [hr] at h1
  rw [hr, hq] at hm
  have b2 : b < 2 := by omega
  refine ⟨b2, h1, fun h => ?_, fun h => ?_⟩
  · have e : T = (2 * r + b) + d * (2 * q) := by rw [Nat.mul_left_comm]; omega
    rw [e, Nat.add_mul_mod_self_left, Nat.mod_eq_of_lt h, Nat.add_mul_div_left _ _ hd, Nat.div_eq_of_lt h]; omega
  · have e : T = (2 * r + b - d) + d * (2 * q + 1) := by rw [Nat.mul_add, Nat.mul_one, Nat.mul_left_comm]; omega
    have h' : 2 * r + b - d < d := by omega
    rw [e, Nat.add_mul_mod_self_left, Nat.mod_eq_of_lt h', Nat.add_mul_div_left _ _ hd, Nat.div_eq_of_lt h']; omega
theorem or_one (r b : Nat) (h : 2 * r + b < 18446744073709551616) (hb : b < 2) : bits .or .u64 ((r : Int) * 2) (b : Int) = ((2 * r + b : Nat) : Int) := by
  rw [show ((r : Int) * 2) = ((2 ^ 1 * r : Nat) : Int) by simp; omega, bits_or_u64_nat _ _ (by omega) (by omega), ← Nat.two_pow_add_eq_or_of_lt (by omega)]
end Go.Proofs.Ytokcnjadknonmaa
/- Contracts of the reference's scalars (6): divided. -/
namespace Go.Proofs.Ytokcnjadknonmaa
open Go.RowKit
set_option maxRecDepth 100000
theorem Wid.set0 {w : World} {b : Nat} {M N : Int} {m : Bool} (h : Wid w b M m) (hl : lo64 M = lo64 N) : Wid (w.setCell ⟨b, 0, none⟩ (.int .u64 (hi64 N))) b N m := by
  have := heap_setCell_same w b 0 _ _ (.int .u64 (hi64 N)) h
  rw [hl] at this
  exact this
theorem Wid.set1 {w : World} {b : Nat} {M N : Int} {m : Bool} (h : Wid w b M m) (hl : hi64 M = hi64 N) : Wid (w.setCell ⟨b, 1, none⟩ (.int .u64 (lo64 N))) b N m := by
  have := heap_setCell_same w b 1 _ _ (.int .u64 (lo64 N)) h
  rw [hl] at this
  exact this
theorem and63 : ∀ j, j < 128 → bits .and .i64 ((j : Nat) : Int) 63 = ((j % 64 : Nat) : Int) := by decide +kernel
theorem pow_wrap (s : Nat) (hs : s < 64) : IntKind.u64.wrap ((2 : Int) ^ s) = 2 ^ s := by
  have h : 2 ^ s < 18446744073709551616 := by rw [show 18446744073709551616 = 2 ^ 64 from rfl]; exact Nat.pow_lt_pow_right (by decide) hs
  rw [show (2 : Int) ^ s = ((2 ^ s : Nat) : Int) by simp]
  generalize 2 ^ s = x at *
  rw [IntKind.wrap_u64]
  omega
/-- What a round of 'divided' keeps. -/
structure DvR (M Q : Nat) (m : Bool) (w wr : World) : Prop where
  below : Below w.heap.size w wr
  a : Wid wr w.heap.size M m
  q : Wid wr (w.heap.size + 1 + 1) Q m
  z : Wid wr (w.heap.size + 1) 0 false
set_option maxHeartbeats 8000000 in
theorem rdivided_any (M d : Nat) (m : Bool) (w : World) (hM : M < 340282366920938463463374607431768211456) (d0 : 0 < d) (d1 : d ≤ 1152921504606846976) :
    Calls Try.prog 72 #[.agg #[.int .u64 (hi64 (M : Int)), .int .u64 (lo64 (M : Int)), .bool m], .int .u64 (d : Int)] w fun e w' =>
      e = .returned (.agg #[.int .u64 (hi64 (dvM M d : Nat)), .int .u64 (lo64 (dvM M d : Nat)), .bool m]) ∧ Below w.heap.size w w' := by
  have HM := Lib.hid (And.intro hM (And.intro d0 d1))
  have R0 : Hid (DvR M (M / 2 ^ 128 / d * 2 ^ 128) m w (((w.alloc (.cells #[.int .u64 (hi64 (M : Int)), .int .u64 (lo64 (M : Int)), .bool m] 103)).alloc (.cells #[.int .u64 0, .int .u64 0, .bool false] 103)).alloc (.cells #[.int .u64 0, .int .u64 0, .bool m] 103))) := by
    refine Lib.hid ⟨by (repeat (first | with_reducible exact Below.refl _ _ | with_reducible apply Below.drew | (with_reducible refine below_drewN ?_ _) | (with_reducible refine Below.alloc ?_ (by (try simp) <;> omega) _) | (with_reducible refine Below.setCell ?_ (by (try simp) <;> omega) _))), ((Wid.new w (M : Int) m).alloc _).alloc _, ?_, ?_⟩
    · have e : M / 2 ^ 128 = 0 := Nat.div_eq_of_lt hM
      rw [e, Nat.zero_div, Nat.zero_mul]
      have h := Wid.new ((w.alloc (.cells #[.int .u64 (hi64 (M : Int)), .int .u64 (lo64 (M : Int)), .bool m] 103)).alloc (.cells #[.int .u64 0, .int .u64 0, .bool false] 103)) 0 m
      rw [show hi64 0 = 0 by decide, show lo64 0 = 0 by decide] at h
      simpa using h
    · have h := (Wid.new (w.alloc (.cells #[.int .u64 (hi64 (M : Int)), .int .u64 (lo64 (M : Int)), .bool m] 103)) 0 false).alloc (.cells #[.int .u64 0, .int .u64 0, .bool m] 103)
      rw [show hi64 0 = 0 by decide, show lo64 0 = 0 by decide] at h
      simpa using h
  have E0 : ((M / 2 ^ 128 % d : Nat) : Int) = 0 := by rw [Nat.div_eq_of_lt hM]; simp
  clear hM d0 d1
  go_enter Try.func72, Try.ntmps72
  go_upto_region 4 with fail
  generalize ((w.alloc (.cells #[.int .u64 (hi64 (M : Int)), .int .u64 (lo64 (M : Int)), .bool m] 103)).alloc (.cells #[.int .u64 0, .int .u64 0, .bool false] 103)).alloc (.cells #[.int .u64 0, .int .u64 0, .bool m] 103) = W0 at *
  go_wp2_with fail
  go_loopw [6, 7, 8] (fun v6 v7 v8 wr => ∃ (k : Nat) (i : Int), k ≤ 128 ∧ i = (k : Int) - 1 ∧ v7 = .int .i64 i ∧ v6 = .int .u64 ((M / 2 ^ k % d : Nat) : Int) ∧ Hid (DvR M (M / 2 ^ k / d * 2 ^ k) m w wr)) (fun _ v _ _ => (intOf v + 1).toNat)
  case atStart => exact ⟨128, 127, by omega, by omega, rfl, by rw [E0], R0⟩
  case round =>
    obtain ⟨k, i, hk, hi, rfl, rfl, R⟩ := hrel
    clear R0 E0
    cases k with
    | zero =>
      obtain rfl : i = -1 := by omega
      rw [Nat.pow_zero, Nat.div_one, Nat.mul_one] at R
      rw [Nat.pow_zero, Nat.div_one]
      obtain ⟨bw, ba, qa, zb⟩ := R.out
      obtain ⟨⟨u0, u1, u2⟩, v0, v1, v2⟩ := qa.c
      have rl := Nat.mod_lt M HM.out.2.1
      obtain ⟨r, hr⟩ : ∃ r, M % d = r := ⟨_, rfl⟩
      obtain ⟨q, hq⟩ : ∃ q, M / d = q := ⟨_, rfl⟩
      rw [hr] at rl ⊢
      rw [hq] at u0 u1 qa
      have hsz := qa.lt
      obtain ⟨⟨z0, z1, z2⟩, x0, x1, x2⟩ := zb.c
      rw [show hi64 0 = 0 by decide] at z0
      rw [show lo64 0 = 0 by decide] at z1
      have e1 : IntKind.u64.wrap ((d : Int) - (r : Int)) = ((d - r : Nat) : Int) := by have := HM.out.2; rw [IntKind.wrap_u64]; omega
      obtain ⟨u, hu⟩ : ∃ u, d - r = u := ⟨_, rfl⟩
      rw [hu] at e1
      have HD := Lib.hid (show dvM M d = if r ≥ u then q + 1 else q by unfold dvM; rw [hr, hq, hu])
      have hq2 : q + 1 < 340282366920938463463374607431768211456 ∨ d = 1 := by
        by_cases h1 : d = 1
        · exact .inr h1
        · have : q ≤ M / 2 := by rw [← hq]; exact Nat.div_le_div_left (by have := HM.out.2; omega) (by decide)
          have := HM.out.1
          omega
      have HQ2 := Lib.hid hq2
      have HM2 := Lib.hid HM.out.2
      clear hq hr hq2 HM hi
      by_cases hg : u ≤ r
      · have g1 : decide (u ≤ r) = true := by simpa using hg
        have AD := Lib.hid (fun w => radd_any q 1 m m w (by have := HQ2.out; have := HM2.out; omega))
        rw [show adM m m q 1 = q + 1 from by unfold adM; simp, show adS m m q 1 = m from by unfold adS; simp] at AD
        rw [show hi64 ((1 : Nat) : Int) = 0 from by decide, show lo64 ((1 : Nat) : Int) = 1 from by decide] at AD
        rw [if_pos hg] at HD
        go_wp2_with fail
        refine (AD.out _).mono ?_; rintro e w1 ⟨rfl, hb1⟩
        have q1 := qa.below hb1
        have o1 := zb.below hb1
        have B1 := Lib.hid (bw.trans (hb1.mono bw.size))
        have hsz1 := q1.lt
        clear u0 u1 u2 v0 v1 v2 z0 z1 z2 x0 x1 x2 hsz R bw ba qa zb AD hb1
        obtain ⟨⟨u0, u1, u2⟩, v0, v1, v2⟩ := q1.c
        obtain ⟨⟨z0, z1, z2⟩, x0, x1, x2⟩ := o1.c
        rw [show hi64 0 = 0 by decide] at z0
        rw [show lo64 0 = 0 by decide] at z1
        go_wp2_with fail
        refine bodyPost_ret (v := .agg #[.int .u64 (hi64 ((q + 1 : Nat) : Int)), .int .u64 (lo64 ((q + 1 : Nat) : Int)), .bool m]) (by simp [results, Try.results72, go_sem, *]) rfl ⟨?_, ?_⟩
        · rw [HD.out]
        · have bw := B1.out
          (repeat (first | exact bw | (refine Below.setCell ?_ (by (try simp) <;> omega) _)))
      · have g1 : decide (u ≤ r) = false := by simpa using hg
        rw [if_neg hg] at HD
        go_wp2_with fail
        refine bodyPost_ret (v := .agg #[.int .u64 (hi64 (q : Int)), .int .u64 (lo64 (q : Int)), .bool m]) (by simp [results, Try.results72, go_sem, *]) rfl ⟨?_, ?_⟩
        · rw [HD.out]
        · (repeat (first | exact bw | (refine Below.setCell ?_ (by (try simp) <;> omega) _)))
    | succ j =>
      obtain rfl : i = (j : Int) := by omega
      have g1 : decide (0 ≤ (j : Int)) = true := by simp
      obtain ⟨T, hT⟩ : ∃ T, M / 2 ^ j = T := ⟨_, rfl⟩
      obtain ⟨H, hH⟩ : ∃ H, M / 2 ^ (j + 1) = H := ⟨_, rfl⟩
      obtain ⟨r, hr⟩ : ∃ r, H % d = r := ⟨_, rfl⟩
      obtain ⟨q, hq⟩ : ∃ q, H / d = q := ⟨_, rfl⟩
      obtain ⟨b, hb⟩ : ∃ b, T % 2 = b := ⟨_, rfl⟩
      obtain ⟨b2, r1, y1, y2⟩ := dv_two T d b H r q HM.out.2.1 hb (by rw [← hT, ← half_pow, hH]) hr hq
      rw [hH, hq] at R
      rw [hH, hr]
      have W2 := Lib.hid HM.out.2
      have e2 : IntKind.u64.wrap ((r : Int) * 2) = (r : Int) * 2 := by have := W2.out; rw [IntKind.wrap_u64]; omega
      have e3 := or_one r b (by have := W2.out; omega) b2
      obtain ⟨t, ht⟩ : ∃ t, 2 * r + b = t := ⟨_, rfl⟩
      rw [ht] at e3 y1 y2
      have t2 : t < 2 * d := by omega
      have qb : q * 2 ^ (j + 1) ≤ M := by rw [← hq, ← hH]; exact Nat.le_trans (Nat.mul_le_mul_right _ (Nat.div_le_self _ _)) (Nat.div_mul_le_self _ _)
      obtain ⟨Q, hQ⟩ : ∃ Q, q * 2 ^ (j + 1) = Q := ⟨_, rfl⟩
      rw [hQ] at R qb
      have HQ := Lib.hid hQ
      clear hQ
      obtain ⟨bw, ba, qa, zb⟩ := R.out
      obtain ⟨⟨c0, c1, c2⟩, _⟩ := ba.c
      obtain ⟨⟨u0, u1, u2⟩, v0, v1, v2⟩ := qa.c
      obtain ⟨s, hs⟩ : ∃ s, j % 64 = s := ⟨_, rfl⟩
      have s64 : s < 64 := by omega
      have f1 : bits .and .i64 (j : Int) 63 = (s : Int) := by rw [and63 j (by omega), hs]
      have f2 : IntKind.u64.wrap (s : Int) = (s : Int) := by rw [IntKind.wrap_u64]; omega
      have f3 := bit_lo M s s64
      have f4 := bit_hi M s HM.out.1
      have f5 := pow_wrap s s64
      have f6 : min s 64 = s := by omega
      have E2 := Lib.hid e2
      have Y := Lib.hid (And.intro y1 y2)
      have QB := Lib.hid qb
      have HM1 := Lib.hid HM.out.1
      clear e2 y1 y2 qb hr hq HM hi
      obtain ⟨bl, hbl⟩ : ∃ x, M / 2 ^ s % 2 = x := ⟨_, rfl⟩
      obtain ⟨bh, hbh⟩ : ∃ x, M / 2 ^ (64 + s) % 2 = x := ⟨_, rfl⟩
      rw [hbl] at f3
      rw [hbh] at f4
      have e2 := E2.out
      by_cases h64 : 64 ≤ j
      · have g2 : decide (64 ≤ (j : Int)) = true := by simp; omega
        have hj : j = 64 + s := by omega
        have HJ := Lib.hid hj
        obtain rfl : bh = b := by rw [← hbh, ← hb, ← hT, hj]
        clear hj hs hbl hbh hb
        by_cases hlt : t < d
        · have g3 : decide (d ≤ t) = false := by simp; omega
          have e0 : Q = 2 * q * 2 ^ j := by rw [← HQ.out, Nat.pow_succ, Nat.mul_comm (2 ^ j) 2, ← Nat.mul_assoc, Nat.mul_comm q 2]
          go_wp2_with fail
          go_roundw
          case rel =>
            refine ⟨j, (j : Int) - 1, by omega, rfl, by go_num, ?_, ?_⟩
            · rw [hT, (Y.out.1 hlt).1]
            · rw [hT, (Y.out.1 hlt).2, ← e0]; exact R
          case measure => simp [intOf]
        · have g3 : decide (d ≤ t) = true := by simp; omega
          obtain ⟨N, hN⟩ : ∃ N, (2 * q + 1) * 2 ^ j = N := ⟨_, rfl⟩
          have HN := Lib.hid hN
          have e4 : IntKind.u64.wrap ((t : Int) - (d : Int)) = ((t - d : Nat) : Int) := by have := W2.out; rw [IntKind.wrap_u64]; omega
          obtain ⟨u, hu⟩ : ∃ u, t - d = u := ⟨_, rfl⟩
          rw [hu] at e4
          obtain ⟨o1, o2⟩ := (show _ ∧ _ from by have := or_hi q s (by rw [← HJ.out, HQ.out]; have := QB.out; have := HM1.out; omega) s64; rw [← HJ.out, HQ.out] at this; exact this)
          rw [hN] at o1 o2
          clear hN
          go_wp2_with fail
          go_roundw
          case rel =>
            refine ⟨j, (j : Int) - 1, by omega, rfl, by go_num, ?_, ?_⟩
            · rw [hT, (Y.out.2 hlt).1, hu]
            · rw [hT, (Y.out.2 hlt).2, HN.out]
              exact Lib.hid ⟨bw.setCell (by simp; omega) _, ba.other (by simp; omega) _, qa.set0 o2, zb.other (by simp) _⟩
          case measure => simp [intOf]
      · have g2 : decide (64 ≤ (j : Int)) = false := by simp; omega
        have hj : j = s := by omega
        have HJ := Lib.hid hj
        obtain rfl : bl = b := by rw [← hbl, ← hb, ← hT, hj]
        clear hj hs hbl hbh hb
        by_cases hlt : t < d
        · have g3 : decide (d ≤ t) = false := by simp; omega
          have e0 : Q = 2 * q * 2 ^ j := by rw [← HQ.out, Nat.pow_succ, Nat.mul_comm (2 ^ j) 2, ← Nat.mul_assoc, Nat.mul_comm q 2]
          go_wp2_with fail
          go_roundw
          case rel =>
            refine ⟨j, (j : Int) - 1, by omega, rfl, by go_num, ?_, ?_⟩
            · rw [hT, (Y.out.1 hlt).1]
            · rw [hT, (Y.out.1 hlt).2, ← e0]; exact R
          case measure => simp [intOf]
        · have g3 : decide (d ≤ t) = true := by simp; omega
          obtain ⟨N, hN⟩ : ∃ N, (2 * q + 1) * 2 ^ j = N := ⟨_, rfl⟩
          have HN := Lib.hid hN
          have e4 : IntKind.u64.wrap ((t : Int) - (d : Int)) = ((t - d : Nat) : Int) := by have := W2.out; rw [IntKind.wrap_u64]; omega
          obtain ⟨u, hu⟩ : ∃ u, t - d = u := ⟨_, rfl⟩
          rw [hu] at e4
          obtain ⟨o1, o2⟩ := (show _ ∧ _ from by have := or_lo q s (by rw [← HJ.out, HQ.out]; have := QB.out; have := HM1.out; omega) s64; rw [← HJ.out, HQ.out, show (2 : Int) ^ j = 2 ^ s by rw [HJ.out]] at this; exact this)
          rw [hN] at o1 o2
          clear hN
          go_wp2_with fail
          go_roundw
          case rel =>
            refine ⟨j, (j : Int) - 1, by omega, rfl, by go_num, ?_, ?_⟩
            · rw [hT, (Y.out.2 hlt).1, hu]
            · rw [hT, (Y.out.2 hlt).2, HN.out]
              exact Lib.hid ⟨bw.setCell (by simp; omega) _, ba.other (by simp; omega) _, qa.set1 o2, zb.other (by simp) _⟩
          case measure => simp [intOf]
end Go.Proofs.Ytokcnjadknonmaa
/- Contracts of the reference's scalars (7): Clamp, Sat, Add, Sub, Neg. -/
namespace Go.Proofs.Ytokcnjadknonmaa
open Go.RowKit
set_option maxRecDepth 100000
theorem clamp1 {a lo hi : Int} (h : hi < lo ∨ a < lo) : clampV a lo hi = lo ∧ clampH a lo hi = true := by
  unfold clampV clampH
  rcases h with h | h <;> simp [h]
theorem clamp2 {a lo hi : Int} (h0 : ¬ hi < lo) (h1 : ¬ a < lo) (h : hi < a) : clampV a lo hi = hi ∧ clampH a lo hi = true := by
  simp [clampV, clampH, h0, h1, h]
theorem clamp3 {a lo hi : Int} (h0 : ¬ hi < lo) (h1 : ¬ a < lo) (h2 : ¬ hi < a) : clampV a lo hi = a ∧ clampH a lo hi = false := by
  simp [clampV, clampH, h0, h1, h2]
theorem rclamp_any (c : Addr) (h : Bool) (a lo hi : Int) (w : World) (hc : w.cell? c = some (.bool h)) (hf : w.frozen? c = false) :
    Calls Try.prog 37 #[.pointer (some c), .int .i64 a, .int .i64 lo, .int .i64 hi] w fun e w' =>
      e = .returned (.int .i64 (clampV a lo hi)) ∧ w.setCell c (.bool (h || clampH a lo hi)) = w' := by
  by_cases h1 : a < lo
  · obtain ⟨e1, e2⟩ := clamp1 (hi := hi) (.inr h1)
    rw [e1, e2, Bool.or_true]
    have d1 : decide (a < lo) = true := by simpa using h1
    have d2 : (lo != a) = true := by simp; omega
    clear e1 e2 h1
    go_enter Try.func37, Try.ntmps37
    go_wp2_with fail
    go_ret
    exact ⟨rfl, rfl⟩
  have d1 : decide (a < lo) = false := by simpa using h1
  by_cases h0 : hi < lo
  · obtain ⟨e1, e2⟩ := clamp1 (a := a) (.inl h0)
    rw [e1, e2, Bool.or_true]
    have d0 : decide (hi < lo) = true := by simpa using h0
    clear e1 e2 h0 h1
    by_cases h2 : lo = a
    · subst h2
      have d2 : (lo != lo) = false := by simp
      go_enter Try.func37, Try.ntmps37
      go_wp2_with fail
      go_ret
      exact ⟨rfl, rfl⟩
    · have d2 : (lo != a) = true := by simpa using h2
      clear h2
      go_enter Try.func37, Try.ntmps37
      go_wp2_with fail
      go_ret
      exact ⟨rfl, rfl⟩
  have d0 : decide (hi < lo) = false := by simpa using h0
  by_cases h2 : hi < a
  · obtain ⟨e1, e2⟩ := clamp2 h0 h1 h2
    rw [e1, e2, Bool.or_true]
    have d2 : decide (hi < a) = true := by simpa using h2
    have d3 : (hi != a) = true := by simp; omega
    clear e1 e2 h0 h1 h2
    go_enter Try.func37, Try.ntmps37
    go_wp2_with fail
    go_ret
    exact ⟨rfl, rfl⟩
  · obtain ⟨e1, e2⟩ := clamp3 h0 h1 h2
    rw [e1, e2, Bool.or_false, setCell_self w c _ hc]
    have d2 : decide (hi < a) = false := by simpa using h2
    have d3 : (a != a) = false := by simp
    clear e1 e2 h0 h1 h2
    go_enter Try.func37, Try.ntmps37
    go_wp2_with fail
    go_ret
    exact ⟨rfl, rfl⟩
theorem rsat_any (c : Addr) (h : Bool) (a : Int) (w : World) (hc : w.cell? c = some (.bool h)) (hf : w.frozen? c = false) :
    Calls Try.prog 39 #[.pointer (some c), .int .i64 a] w fun e w' => e = .returned (.int .i64 (satV a)) ∧ w.setCell c (.bool (h || satH a)) = w' := by
  go_enter Try.func39, Try.ntmps39
  go_wp2_with (go_at_call 37; refine (rclamp_any c h a _ _ _ hc hf).mono ?_; rintro e w' ⟨rfl, rfl⟩)
  go_ret
  exact ⟨rfl, rfl⟩
theorem rsub_any (c : Addr) (h : Bool) (a b : Int) (w : World) (hc : w.cell? c = some (.bool h)) (hf : w.frozen? c = false) :
    Calls Try.prog 43 #[.pointer (some c), .int .i64 a, .int .i64 b] w fun e w' =>
      e = .returned (.int .i64 (satV (satV a - satV b))) ∧ w.setCell c (.bool (h || satH a || satH b || satH (satV a - satV b))) = w' := by
  have ba := satV_bd a
  have bb := satV_bd b
  obtain ⟨x, hx⟩ : ∃ x, satV a = x := ⟨_, rfl⟩
  obtain ⟨y, hy⟩ : ∃ y, satV b = y := ⟨_, rfl⟩
  have c1 : (w.setCell c (.bool (h || satH a))).cell? c = some (.bool (h || satH a)) := World.cell?_setCell_same _ _ _ hc
  have c2 : ((w.setCell c (.bool (h || satH a))).setCell c (.bool (h || satH a || satH b))).cell? c = some (.bool (h || satH a || satH b)) := World.cell?_setCell_same _ _ _ c1
  have f1 : ∀ v, (w.setCell c v).frozen? c = false := fun v => by simp [hf]
  go_enter Try.func43, Try.ntmps43
  go_wp2_with fail
  refine (rsat_any c h a _ hc hf).mono ?_; rintro e w' ⟨rfl, rfl⟩
  go_wp2_with fail
  refine (rsat_any c _ b _ c1 (f1 _)).mono ?_; rintro e w' ⟨rfl, rfl⟩
  go_wp2_with fail
  obtain ⟨z, hz⟩ : ∃ z, satV (x - y) = z := ⟨_, rfl⟩
  refine (rsat_any c _ (x - y) _ c2 (by simp [hf])).mono ?_; rintro e w' ⟨rfl, rfl⟩
  go_wp2_with fail
  go_ret
  rw [hx, hy, hz]
  exact ⟨rfl, by simp only [setCell_setCell]⟩
theorem rplus_any (c : Addr) (h : Bool) (a b : Int) (w : World) (hc : w.cell? c = some (.bool h)) (hf : w.frozen? c = false) :
    Calls Try.prog 51 #[.pointer (some c), .int .i64 a, .int .i64 b] w fun e w' =>
      e = .returned (.int .i64 (satV (satV a + satV b))) ∧ w.setCell c (.bool (h || satH a || satH b || satH (satV a + satV b))) = w' := by
  have ba := satV_bd a
  have bb := satV_bd b
  obtain ⟨x, hx⟩ : ∃ x, satV a = x := ⟨_, rfl⟩
  obtain ⟨y, hy⟩ : ∃ y, satV b = y := ⟨_, rfl⟩
  have c1 : (w.setCell c (.bool (h || satH a))).cell? c = some (.bool (h || satH a)) := World.cell?_setCell_same _ _ _ hc
  have c2 : ((w.setCell c (.bool (h || satH a))).setCell c (.bool (h || satH a || satH b))).cell? c = some (.bool (h || satH a || satH b)) := World.cell?_setCell_same _ _ _ c1
  have f1 : ∀ v, (w.setCell c v).frozen? c = false := fun v => by simp [hf]
  go_enter Try.func51, Try.ntmps51
  go_wp2_with fail
  refine (rsat_any c h a _ hc hf).mono ?_; rintro e w' ⟨rfl, rfl⟩
  go_wp2_with fail
  refine (rsat_any c _ b _ c1 (f1 _)).mono ?_; rintro e w' ⟨rfl, rfl⟩
  go_wp2_with fail
  obtain ⟨z, hz⟩ : ∃ z, satV (x + y) = z := ⟨_, rfl⟩
  refine (rsat_any c _ (x + y) _ c2 (by simp [hf])).mono ?_; rintro e w' ⟨rfl, rfl⟩
  go_wp2_with fail
  go_ret
  rw [hx, hy, hz]
  exact ⟨rfl, by simp only [setCell_setCell]⟩
end Go.Proofs.Ytokcnjadknonmaa
/- Contracts of the reference's scalars (8): Mul by 2^30 and 2^44, M. -/
namespace Go.Proofs.Ytokcnjadknonmaa
open Go.RowKit
set_option maxRecDepth 100000
theorem sg2_mul (x y : Int) (P : Nat) (hP : x.natAbs * y.natAbs = P) : sv (sg2 x y) P = x * y := by
  subst hP
  unfold sv sg2
  have hx := Int.natAbs_mul x y
  by_cases h1 : x < 0 <;> by_cases h2 : y < 0
  · simp only [if_pos h1, if_pos h2, Bool.false_eq_true, if_false]
    rw [← hx]; have := Int.mul_pos_of_neg_of_neg h1 h2; omega
  · simp only [if_pos h1, if_neg h2, if_true]
    rw [← hx]; have := Int.mul_nonpos_of_nonpos_of_nonneg (Int.le_of_lt h1) (Int.not_lt.mp h2); omega
  · simp only [if_neg h1, if_pos h2, if_true]
    rw [← hx]; have := Int.mul_nonpos_of_nonneg_of_nonpos (Int.not_lt.mp h1) (Int.le_of_lt h2); omega
  · simp only [if_neg h1, if_neg h2, Bool.false_eq_true, if_false]
    rw [← hx]; have := Int.mul_nonneg (Int.not_lt.mp h1) (Int.not_lt.mp h2); omega
theorem abs_prod_bd (a b : Int) : (satV a).natAbs * (satV b).natAbs ≤ 1329227995784915872903807060280344576 := by
  have ha := satV_bd a
  have hb := satV_bd b
  exact Nat.le_trans (Nat.mul_le_mul (show (satV a).natAbs ≤ 1152921504606846976 by omega) (show (satV b).natAbs ≤ 1152921504606846976 by omega)) (by decide)
set_option maxHeartbeats 1000000 in
theorem rmulS (c : Addr) (h : Bool) (a b s x y : Int) (P N : Nat) (m : Bool) (w : World) (hc : w.cell? c = some (.bool h)) (hf : w.frozen? c = false)
    (hx : satV a = x) (hy : satV b = y)
    (hm : ∀ w, Calls Try.prog 66 #[.int .i64 x, .int .i64 y] w fun e w' => e = .returned (.agg #[.int .u64 (hi64 (P : Int)), .int .u64 (lo64 (P : Int)), .bool m]) ∧ Below w.heap.size w w')
    (hs : ∀ w, Calls Try.prog 68 #[.agg #[.int .u64 (hi64 (P : Int)), .int .u64 (lo64 (P : Int)), .bool m], .int .i64 s] w fun e w' =>
      e = .returned (.agg #[.int .u64 (hi64 (N : Int)), .int .u64 (lo64 (N : Int)), .bool m]) ∧ Below w.heap.size w w') :
    Calls Try.prog 52 #[.pointer (some c), .int .i64 a, .int .i64 b, .int .i64 s] w fun e w' => e = .returned (.int .i64 (satV (sv m N))) ∧ Upd c (h || satH a || satH b || satH (sv m N)) w w' := by
  have hcb := World.block_lt_of_cell? w c hc
  have c1 : (w.setCell c (.bool (h || satH a))).cell? c = some (.bool (h || satH a)) := World.cell?_setCell_same _ _ _ hc
  have c2 : ((w.setCell c (.bool (h || satH a))).setCell c (.bool (h || satH a || satH b))).cell? c = some (.bool (h || satH a || satH b)) := World.cell?_setCell_same _ _ _ c1
  have HM := Lib.hid hm
  have HR := Lib.hid hs
  have C2 := Lib.hid c2
  clear hm hs c2
  go_enter Try.func52, Try.ntmps52
  go_wp2_with fail
  refine (rsat_any c h a _ hc hf).mono ?_; rintro e w' ⟨rfl, rfl⟩
  go_wp2_with fail
  refine (rsat_any c _ b _ c1 (by simp [hf])).mono ?_; rintro e w' ⟨rfl, rfl⟩
  have HW := Lib.hid (Upd.trans (Upd.set c (h || satH a) w) (Upd.set c (h || satH a || satH b) _))
  have F2 : ((w.setCell c (.bool (h || satH a))).setCell c (.bool (h || satH a || satH b))).frozen? c = false := by simp [hf]
  have Z2 := Upd.size HW.out
  obtain ⟨w2, hw2⟩ : ∃ w2, (w.setCell c (.bool (h || satH a))).setCell c (.bool (h || satH a || satH b)) = w2 := ⟨_, rfl⟩
  rw [hw2] at HW C2 F2 Z2 ⊢
  clear hw2 c1 hc hf
  go_wp2_with fail
  refine (HM.out _).mono ?_; rintro e w3 ⟨rfl, hb3⟩
  have k1 : w3.cell? c = some (.bool (h || satH a || satH b)) := (hb3.cell (by omega)).trans C2.out
  have k2 : w3.frozen? c = false := (hb3.frozen (by omega)).trans F2
  have hz := hb3.size
  have HB3 := Lib.hid hb3
  clear hb3 C2 F2
  go_wp2_with fail
  refine (HR.out _).mono ?_; rintro e w4 ⟨rfl, hb4⟩
  have k3 : w4.cell? c = some (.bool (h || satH a || satH b)) := (hb4.cell (by omega)).trans k1
  have k4 : w4.frozen? c = false := (hb4.frozen (by omega)).trans k2
  have HB4 := Lib.hid hb4
  clear hb4 k1 k2
  go_wp2_with fail
  refine (rend2_any c _ N m _ k3 k4).mono ?_; rintro e w5 ⟨rfl, hu5⟩
  go_wp2_with fail
  go_ret
  exact ⟨rfl, HW.out.trans (Upd.after HB3.out (Upd.after HB4.out hu5))⟩
theorem rmul30_any (c : Addr) (h : Bool) (a b : Int) (w : World) (hc : w.cell? c = some (.bool h)) (hf : w.frozen? c = false) :
    Calls Try.prog 52 #[.pointer (some c), .int .i64 a, .int .i64 b, .int .i64 30] w fun e w' => e = .returned (.int .i64 (mulV a b 30)) ∧ Upd c (h || mulH a b 30) w w' := by
  have hp := abs_prod_bd a b
  have ba := satV_bd a
  have bb := satV_bd b
  obtain ⟨P, hP⟩ : ∃ P, (satV a).natAbs * (satV b).natAbs = P := ⟨_, rfl⟩
  have e1 : mulV a b 30 = satV (sv (sg2 (satV a) (satV b)) (shM P 30)) := by rw [← rsh_sv, sg2_mul _ _ P hP]; simp [mulV]
  have e2 : (h || mulH a b 30) = (h || satH a || satH b || satH (sv (sg2 (satV a) (satV b)) (shM P 30))) := by rw [← rsh_sv, sg2_mul _ _ P hP]; simp [mulH, Bool.or_assoc]
  rw [e1, e2]
  rw [hP] at hp
  exact rmulS c h a b 30 _ _ P _ _ w hc hf rfl rfl (fun w => rmul_any _ _ _ w ba.1 ba.2 bb.1 bb.2 (by rw [← hP]; simp)) (fun w => rshift30_any P _ w (by omega))
theorem rmul44_any (c : Addr) (h : Bool) (a b : Int) (w : World) (hc : w.cell? c = some (.bool h)) (hf : w.frozen? c = false) :
    Calls Try.prog 52 #[.pointer (some c), .int .i64 a, .int .i64 b, .int .i64 44] w fun e w' => e = .returned (.int .i64 (mulV a b 44)) ∧ Upd c (h || mulH a b 44) w w' := by
  have hp := abs_prod_bd a b
  have ba := satV_bd a
  have bb := satV_bd b
  obtain ⟨P, hP⟩ : ∃ P, (satV a).natAbs * (satV b).natAbs = P := ⟨_, rfl⟩
  have e1 : mulV a b 44 = satV (sv (sg2 (satV a) (satV b)) (shM P 44)) := by rw [← rsh_sv, sg2_mul _ _ P hP]; simp [mulV]
  have e2 : (h || mulH a b 44) = (h || satH a || satH b || satH (sv (sg2 (satV a) (satV b)) (shM P 44))) := by rw [← rsh_sv, sg2_mul _ _ P hP]; simp [mulH, Bool.or_assoc]
  rw [e1, e2]
  rw [hP] at hp
  exact rmulS c h a b 44 _ _ P _ _ w hc hf rfl rfl (fun w => rmul_any _ _ _ w ba.1 ba.2 bb.1 bb.2 (by rw [← hP]; simp)) (fun w => rshift44_any P _ w (by omega))
theorem rm_any (c : Addr) (h : Bool) (a b : Int) (w : World) (hc : w.cell? c = some (.bool h)) (hf : w.frozen? c = false) :
    Calls Try.prog 15 #[.pointer (some c), .int .i64 a, .int .i64 b] w fun e w' => e = .returned (.int .i64 (mulV a b 30)) ∧ Upd c (h || mulH a b 30) w w' := by
  go_enter Try.func15, Try.ntmps15
  go_wp2_with fail
  refine (rmul30_any c h a b _ hc hf).mono ?_; rintro e w1 ⟨rfl, hu⟩
  go_wp2_with fail
  go_ret
  exact ⟨rfl, hu⟩
end Go.Proofs.Ytokcnjadknonmaa
