/- Contracts of the program's functions and plain laws, part 8: they hold for all arguments. -/
import Derived.Test.YtokcdlcmamdloaaQ07
import Derived.Test.YtokcdlcmamdloaaQ01
import Derived.Test.YtokcdlcmamdloaaQ02
/- Contracts of the reference's scalars (5): shifted. -/
namespace Go.Proofs.Ytokcdlcmamdloaa
open Go.RowKit
set_option maxRecDepth 100000

theorem rshift30_any (M : Nat) (m : Bool) (w : World) (hM : M + 536870912 < 340282366920938463463374607431768211456) :
    Calls Try.prog 68 #[.agg #[.int .u64 (hi64 (M : Int)), .int .u64 (lo64 (M : Int)), .bool m], .int .i64 30] w fun e w' =>
      e = .returned (.agg #[.int .u64 (hi64 (shM M 30 : Nat)), .int .u64 (lo64 (shM M 30 : Nat)), .bool m]) ∧ Below w.heap.size w w' := by
  obtain ⟨T, hT⟩ : ∃ T : Nat, M + 536870912 = T := ⟨_, rfl⟩
  have hsh : shM M 30 = T / 1073741824 := by unfold shM; rw [if_neg (by decide), ← hT]
  have AD := fun w => radd_any M 536870912 m m w hM
  rw [show adM m m M 536870912 = T from by unfold adM; simp [hT], show adS m m M 536870912 = m from by unfold adS; simp] at AD
  rw [show hi64 ((536870912 : Nat) : Int) = 0 from by decide, show lo64 ((536870912 : Nat) : Int) = 536870912 from by decide] at AD
  have AD := Lib.hid AD
  have r1 : hi64 (T : Int) / 1073741824 = hi64 ((T / 1073741824 : Nat) : Int) := by unfold hi64; omega
  have hx : hi64 (T : Int) = ((T / 18446744073709551616 : Nat) : Int) := by unfold hi64; omega
  have hy : lo64 (T : Int) = ((T % 18446744073709551616 : Nat) : Int) := by unfold lo64; omega
  have r2 : bits .or .u64 (lo64 (T : Int) / 1073741824) (IntKind.u64.wrap (hi64 (T : Int) * 17179869184)) = lo64 ((T / 1073741824 : Nat) : Int) := by
    have k := shr_lo_eq (T / 18446744073709551616) (T % 18446744073709551616) 30 (by decide) (by omega)
    rw [show T / 18446744073709551616 * 18446744073709551616 + T % 18446744073709551616 = T from by omega] at k
    rw [hx, hy, IntKind.wrap_u64]
    rw [show (((T % 18446744073709551616 : Nat) : Int) / 1073741824) = ((T % 18446744073709551616 / 1073741824 : Nat) : Int) from by omega]
    rw [show (((T / 18446744073709551616 : Nat) : Int) * 17179869184 % 18446744073709551616) = ((T / 18446744073709551616 * 17179869184 % 18446744073709551616 : Nat) : Int) from by omega]
    rw [bits_or_u64_nat _ _ (by omega) (by omega), Nat.or_comm]
    unfold lo64
    rw [show (2 : Nat) ^ 30 = 1073741824 from rfl, show (2 : Nat) ^ (64 - 30) = 17179869184 from rfl] at k
    rw [← k]
    omega
  obtain ⟨u, hu⟩ : ∃ u, hi64 ((T / 1073741824 : Nat) : Int) = u := ⟨_, rfl⟩
  obtain ⟨v, hv⟩ : ∃ v, lo64 ((T / 1073741824 : Nat) : Int) = v := ⟨_, rfl⟩
  rw [hu] at r1
  rw [hv] at r2
  have HS := Lib.hid (And.intro hsh (And.intro hu hv))
  clear hsh hx hy hM hT hu hv
  go_enter Try.func68, Try.ntmps68
  go_wp2_with fail
  refine (AD.out _).mono ?_; rintro e w1 ⟨rfl, hb1⟩
  have hb1z0 : w.heap.size < w1.heap.size := by have := hb1.size; (try simp at this); omega
  have hb1z1 : w.heap.size + 1 < w1.heap.size := by have := hb1.size; (try simp at this); omega
  have hb1z2 : w.heap.size + 1 + 1 < w1.heap.size := by have := hb1.size; (try simp at this); omega
  have hb1c0_0 := hb1.cell (p := ⟨w.heap.size, 0, none⟩) (by (try simp); (try omega))
  have hb1f0_0 := hb1.frozen (p := ⟨w.heap.size, 0, none⟩) (by (try simp); (try omega))
  simp [go_sem, *] at hb1c0_0 hb1f0_0
  have hb1c0_1 := hb1.cell (p := ⟨w.heap.size, 1, none⟩) (by (try simp); (try omega))
  have hb1f0_1 := hb1.frozen (p := ⟨w.heap.size, 1, none⟩) (by (try simp); (try omega))
  simp [go_sem, *] at hb1c0_1 hb1f0_1
  have hb1c0_2 := hb1.cell (p := ⟨w.heap.size, 2, none⟩) (by (try simp); (try omega))
  have hb1f0_2 := hb1.frozen (p := ⟨w.heap.size, 2, none⟩) (by (try simp); (try omega))
  simp [go_sem, *] at hb1c0_2 hb1f0_2
  have hb1c1_0 := hb1.cell (p := ⟨w.heap.size + 1, 0, none⟩) (by (try simp); (try omega))
  have hb1f1_0 := hb1.frozen (p := ⟨w.heap.size + 1, 0, none⟩) (by (try simp); (try omega))
  simp [go_sem, *] at hb1c1_0 hb1f1_0
  have hb1c1_1 := hb1.cell (p := ⟨w.heap.size + 1, 1, none⟩) (by (try simp); (try omega))
  have hb1f1_1 := hb1.frozen (p := ⟨w.heap.size + 1, 1, none⟩) (by (try simp); (try omega))
  simp [go_sem, *] at hb1c1_1 hb1f1_1
  have hb1c1_2 := hb1.cell (p := ⟨w.heap.size + 1, 2, none⟩) (by (try simp); (try omega))
  have hb1f1_2 := hb1.frozen (p := ⟨w.heap.size + 1, 2, none⟩) (by (try simp); (try omega))
  simp [go_sem, *] at hb1c1_2 hb1f1_2
  have hb1c2_0 := hb1.cell (p := ⟨w.heap.size + 1 + 1, 0, none⟩) (by (try simp); (try omega))
  have hb1f2_0 := hb1.frozen (p := ⟨w.heap.size + 1 + 1, 0, none⟩) (by (try simp); (try omega))
  simp [go_sem, *] at hb1c2_0 hb1f2_0
  have hb1c2_1 := hb1.cell (p := ⟨w.heap.size + 1 + 1, 1, none⟩) (by (try simp); (try omega))
  have hb1f2_1 := hb1.frozen (p := ⟨w.heap.size + 1 + 1, 1, none⟩) (by (try simp); (try omega))
  simp [go_sem, *] at hb1c2_1 hb1f2_1
  have hb1c2_2 := hb1.cell (p := ⟨w.heap.size + 1 + 1, 2, none⟩) (by (try simp); (try omega))
  have hb1f2_2 := hb1.frozen (p := ⟨w.heap.size + 1 + 1, 2, none⟩) (by (try simp); (try omega))
  simp [go_sem, *] at hb1c2_2 hb1f2_2
  have B1 := Lib.hid (Below.trans (show Below w.heap.size w _ by (repeat (first | with_reducible exact Below.refl _ _ | with_reducible apply Below.drew | (with_reducible refine below_drewN ?_ _) | (with_reducible refine Below.alloc ?_ (by (try simp) <;> omega) _) | (with_reducible refine Below.setCell ?_ (by (try simp) <;> omega) _)))) (hb1.mono (by simp; omega)))
  clear hb1
  go_wp2_with fail
  refine bodyPost_ret (v := .agg #[.int .u64 u, .int .u64 v, .bool m]) (by simp [results, Try.results68, go_sem, *]) rfl ⟨?_, ?_⟩
  · rw [HS.out.1, HS.out.2.1, HS.out.2.2]
  · have hB := B1.out
    (repeat (first | with_reducible exact Below.refl _ _ | with_reducible assumption | with_reducible apply Below.drew | (with_reducible refine below_drewN ?_ _) | (with_reducible refine Below.alloc ?_ (by (try simp) <;> omega) _) | (with_reducible refine Below.setCell ?_ (by (try simp) <;> omega) _) | (with_reducible refine Below.trans ?_ (Below.mono (by assumption) (by (try simp) <;> omega)))))

theorem rshift44_any (M : Nat) (m : Bool) (w : World) (hM : M + 8796093022208 < 340282366920938463463374607431768211456) :
    Calls Try.prog 68 #[.agg #[.int .u64 (hi64 (M : Int)), .int .u64 (lo64 (M : Int)), .bool m], .int .i64 44] w fun e w' =>
      e = .returned (.agg #[.int .u64 (hi64 (shM M 44 : Nat)), .int .u64 (lo64 (shM M 44 : Nat)), .bool m]) ∧ Below w.heap.size w w' := by
  obtain ⟨T, hT⟩ : ∃ T : Nat, M + 8796093022208 = T := ⟨_, rfl⟩
  have hsh : shM M 44 = T / 17592186044416 := by unfold shM; rw [if_neg (by decide), ← hT]
  have AD := fun w => radd_any M 8796093022208 m m w hM
  rw [show adM m m M 8796093022208 = T from by unfold adM; simp [hT], show adS m m M 8796093022208 = m from by unfold adS; simp] at AD
  rw [show hi64 ((8796093022208 : Nat) : Int) = 0 from by decide, show lo64 ((8796093022208 : Nat) : Int) = 8796093022208 from by decide] at AD
  have AD := Lib.hid AD
  have r1 : hi64 (T : Int) / 17592186044416 = hi64 ((T / 17592186044416 : Nat) : Int) := by unfold hi64; omega
  have hx : hi64 (T : Int) = ((T / 18446744073709551616 : Nat) : Int) := by unfold hi64; omega
  have hy : lo64 (T : Int) = ((T % 18446744073709551616 : Nat) : Int) := by unfold lo64; omega
  have r2 : bits .or .u64 (lo64 (T : Int) / 17592186044416) (IntKind.u64.wrap (hi64 (T : Int) * 1048576)) = lo64 ((T / 17592186044416 : Nat) : Int) := by
    have k := shr_lo_eq (T / 18446744073709551616) (T % 18446744073709551616) 44 (by decide) (by omega)
    rw [show T / 18446744073709551616 * 18446744073709551616 + T % 18446744073709551616 = T from by omega] at k
    rw [hx, hy, IntKind.wrap_u64]
    rw [show (((T % 18446744073709551616 : Nat) : Int) / 17592186044416) = ((T % 18446744073709551616 / 17592186044416 : Nat) : Int) from by omega]
    rw [show (((T / 18446744073709551616 : Nat) : Int) * 1048576 % 18446744073709551616) = ((T / 18446744073709551616 * 1048576 % 18446744073709551616 : Nat) : Int) from by omega]
    rw [bits_or_u64_nat _ _ (by omega) (by omega), Nat.or_comm]
    unfold lo64
    rw [show (2 : Nat) ^ 44 = 17592186044416 from rfl, show (2 : Nat) ^ (64 - 44) = 1048576 from rfl] at k
    rw [← k]
    omega
  obtain ⟨u, hu⟩ : ∃ u, hi64 ((T / 17592186044416 : Nat) : Int) = u := ⟨_, rfl⟩
  obtain ⟨v, hv⟩ : ∃ v, lo64 ((T / 17592186044416 : Nat) : Int) = v := ⟨_, rfl⟩
  rw [hu] at r1
  rw [hv] at r2
  have HS := Lib.hid (And.intro hsh (And.intro hu hv))
  clear hsh hx hy hM hT hu hv
  go_enter Try.func68, Try.ntmps68
  go_wp2_with fail
  refine (AD.out _).mono ?_; rintro e w1 ⟨rfl, hb1⟩
  have hb1z0 : w.heap.size < w1.heap.size := by have := hb1.size; (try simp at this); omega
  have hb1z1 : w.heap.size + 1 < w1.heap.size := by have := hb1.size; (try simp at this); omega
  have hb1z2 : w.heap.size + 1 + 1 < w1.heap.size := by have := hb1.size; (try simp at this); omega
  have hb1c0_0 := hb1.cell (p := ⟨w.heap.size, 0, none⟩) (by (try simp); (try omega))
  have hb1f0_0 := hb1.frozen (p := ⟨w.heap.size, 0, none⟩) (by (try simp); (try omega))
  simp [go_sem, *] at hb1c0_0 hb1f0_0
  have hb1c0_1 := hb1.cell (p := ⟨w.heap.size, 1, none⟩) (by (try simp); (try omega))
  have hb1f0_1 := hb1.frozen (p := ⟨w.heap.size, 1, none⟩) (by (try simp); (try omega))
  simp [go_sem, *] at hb1c0_1 hb1f0_1
  have hb1c0_2 := hb1.cell (p := ⟨w.heap.size, 2, none⟩) (by (try simp); (try omega))
  have hb1f0_2 := hb1.frozen (p := ⟨w.heap.size, 2, none⟩) (by (try simp); (try omega))
  simp [go_sem, *] at hb1c0_2 hb1f0_2
  have hb1c1_0 := hb1.cell (p := ⟨w.heap.size + 1, 0, none⟩) (by (try simp); (try omega))
  have hb1f1_0 := hb1.frozen (p := ⟨w.heap.size + 1, 0, none⟩) (by (try simp); (try omega))
  simp [go_sem, *] at hb1c1_0 hb1f1_0
  have hb1c1_1 := hb1.cell (p := ⟨w.heap.size + 1, 1, none⟩) (by (try simp); (try omega))
  have hb1f1_1 := hb1.frozen (p := ⟨w.heap.size + 1, 1, none⟩) (by (try simp); (try omega))
  simp [go_sem, *] at hb1c1_1 hb1f1_1
  have hb1c1_2 := hb1.cell (p := ⟨w.heap.size + 1, 2, none⟩) (by (try simp); (try omega))
  have hb1f1_2 := hb1.frozen (p := ⟨w.heap.size + 1, 2, none⟩) (by (try simp); (try omega))
  simp [go_sem, *] at hb1c1_2 hb1f1_2
  have hb1c2_0 := hb1.cell (p := ⟨w.heap.size + 1 + 1, 0, none⟩) (by (try simp); (try omega))
  have hb1f2_0 := hb1.frozen (p := ⟨w.heap.size + 1 + 1, 0, none⟩) (by (try simp); (try omega))
  simp [go_sem, *] at hb1c2_0 hb1f2_0
  have hb1c2_1 := hb1.cell (p := ⟨w.heap.size + 1 + 1, 1, none⟩) (by (try simp); (try omega))
  have hb1f2_1 := hb1.frozen (p := ⟨w.heap.size + 1 + 1, 1, none⟩) (by (try simp); (try omega))
  simp [go_sem, *] at hb1c2_1 hb1f2_1
  have hb1c2_2 := hb1.cell (p := ⟨w.heap.size + 1 + 1, 2, none⟩) (by (try simp); (try omega))
  have hb1f2_2 := hb1.frozen (p := ⟨w.heap.size + 1 + 1, 2, none⟩) (by (try simp); (try omega))
  simp [go_sem, *] at hb1c2_2 hb1f2_2
  have B1 := Lib.hid (Below.trans (show Below w.heap.size w _ by (repeat (first | with_reducible exact Below.refl _ _ | with_reducible apply Below.drew | (with_reducible refine below_drewN ?_ _) | (with_reducible refine Below.alloc ?_ (by (try simp) <;> omega) _) | (with_reducible refine Below.setCell ?_ (by (try simp) <;> omega) _)))) (hb1.mono (by simp; omega)))
  clear hb1
  go_wp2_with fail
  refine bodyPost_ret (v := .agg #[.int .u64 u, .int .u64 v, .bool m]) (by simp [results, Try.results68, go_sem, *]) rfl ⟨?_, ?_⟩
  · rw [HS.out.1, HS.out.2.1, HS.out.2.2]
  · have hB := B1.out
    (repeat (first | with_reducible exact Below.refl _ _ | with_reducible assumption | with_reducible apply Below.drew | (with_reducible refine below_drewN ?_ _) | (with_reducible refine Below.alloc ?_ (by (try simp) <;> omega) _) | (with_reducible refine Below.setCell ?_ (by (try simp) <;> omega) _) | (with_reducible refine Below.trans ?_ (Below.mono (by assumption) (by (try simp) <;> omega)))))
end Go.Proofs.Ytokcdlcmamdloaa
/- The long division of the reference, bit by bit: what a round makes. No program. -/
namespace Go.Proofs.Ytokcdlcmamdloaa
theorem half_pow (M j : Nat) : M / 2 ^ (j + 1) = M / 2 ^ j / 2 := by rw [Nat.pow_succ, Nat.div_div_eq_div_mul]
theorem mod_two_int (n : Nat) : bits .and .u64 (n : Int) 1 = ((n % 2 : Nat) : Int) ∨ 18446744073709551616 ≤ n := by
  by_cases h : n < 18446744073709551616
  · refine .inl ?_
    rw [show (1 : Int) = ((1 : Nat) : Int) from rfl, bits_and_u64_nat n 1 h (by decide)]
    rw [show (1 : Nat) = 2 ^ 1 - 1 from rfl, Nat.and_two_pow_sub_one_eq_mod]
  · exact .inr (by omega)
theorem bit_hi (M s : Nat) (hM : M < 340282366920938463463374607431768211456) : bits .and .u64 (hi64 (M : Int) / 2 ^ s) 1 = ((M / 2 ^ (64 + s) % 2 : Nat) : Int) := by
  have e : hi64 (M : Int) / 2 ^ s = ((M / 2 ^ (64 + s) : Nat) : Int) := by
    rw [Nat.pow_add, ← Nat.div_div_eq_div_mul]
    rw [show hi64 (M : Int) = ((M / 2 ^ 64 : Nat) : Int) by unfold hi64; rw [show (2 : Nat) ^ 64 = 18446744073709551616 from rfl]; omega]
    simp
  rw [e]
  rcases mod_two_int (M / 2 ^ (64 + s)) with h | h
  · exact h
  · exfalso
    rw [Nat.pow_add, ← Nat.div_div_eq_div_mul] at h
    have := Nat.div_le_self (M / 2 ^ 64) (2 ^ s)
    rw [show (2 : Nat) ^ 64 = 18446744073709551616 from rfl] at *
    omega
theorem bit_lo (M s : Nat) (hs : s < 64) : bits .and .u64 (lo64 (M : Int) / 2 ^ s) 1 = ((M / 2 ^ s % 2 : Nat) : Int) := by
  have e : lo64 (M : Int) / 2 ^ s = ((M % 2 ^ 64 / 2 ^ s : Nat) : Int) := by
    rw [show lo64 (M : Int) = ((M % 2 ^ 64 : Nat) : Int) by unfold lo64; rw [show (2 : Nat) ^ 64 = 18446744073709551616 from rfl]; omega]
    simp
  have hp : 0 < 2 ^ s := Nat.two_pow_pos s
  have hd : M % 2 ^ 64 / 2 ^ s % 2 = M / 2 ^ s % 2 := by
    obtain ⟨t, ht⟩ : ∃ t, 64 = s + (t + 1) := ⟨63 - s, by omega⟩
    rw [ht, Nat.pow_add, Nat.mod_mul, Nat.add_mul_div_left _ _ hp, Nat.div_eq_of_lt (Nat.mod_lt _ hp), Nat.zero_add, Nat.pow_succ, Nat.mul_comm (2 ^ t), Nat.mod_mul_right_mod]
  rw [e]
  rcases mod_two_int (M % 2 ^ 64 / 2 ^ s) with h | h
  · rw [h, hd]
  · exfalso
    have := Nat.div_le_self (M % 2 ^ 64) (2 ^ s)
    rw [show (2 : Nat) ^ 64 = 18446744073709551616 from rfl] at *
    omega
theorem or_hi (q s : Nat) (hq : q * 2 ^ (64 + s + 1) < 340282366920938463463374607431768211456) (hs : s < 64) :
    bits .or .u64 (hi64 ((q * 2 ^ (64 + s + 1) : Nat) : Int)) (2 ^ s) = hi64 (((2 * q + 1) * 2 ^ (64 + s) : Nat) : Int) ∧ lo64 ((q * 2 ^ (64 + s + 1) : Nat) : Int) = lo64 (((2 * q + 1) * 2 ^ (64 + s) : Nat) : Int) := by
  have e1 : q * 2 ^ (64 + s + 1) = (2 ^ (s + 1) * q) * 18446744073709551616 := by
    rw [show 64 + s + 1 = (s + 1) + 64 by omega, Nat.pow_add, show (2 : Nat) ^ 64 = 18446744073709551616 from rfl, ← Nat.mul_assoc, Nat.mul_comm q]
  have e2 : (2 * q + 1) * 2 ^ (64 + s) = (2 ^ (s + 1) * q + 2 ^ s) * 18446744073709551616 := by
    rw [show 64 + s = s + 64 by omega, Nat.pow_add, show (2 : Nat) ^ 64 = 18446744073709551616 from rfl, ← Nat.mul_assoc, Nat.pow_succ]
    congr 1
    rw [Nat.add_mul, Nat.one_mul, Nat.mul_assoc 2, Nat.mul_comm (2 ^ s) 2, Nat.mul_assoc 2, Nat.mul_comm q]
  have hl : 2 ^ s < 2 ^ (s + 1) := Nat.pow_lt_pow_right (by decide) (by omega)
  have hl2 : 2 ^ s < 18446744073709551616 := by rw [show 18446744073709551616 = 2 ^ 64 from rfl]; exact Nat.pow_lt_pow_right (by decide) hs
  have h3 := Nat.two_pow_add_eq_or_of_lt hl q
  rw [e1] at hq ⊢
  rw [e2]
  rw [show (2 : Int) ^ s = ((2 ^ s : Nat) : Int) by simp]
  generalize 2 ^ (s + 1) * q = A at *
  generalize 2 ^ s = B at *
  refine ⟨?_, ?_⟩
  · rw [show hi64 ((A * 18446744073709551616 : Nat) : Int) = (A : Int) by unfold hi64; omega, bits_or_u64_nat _ _ (by omega) hl2, ← h3]
    unfold hi64; omega
  · unfold lo64; omega
theorem or_lo (q s : Nat) (_hq : q * 2 ^ (s + 1) < 340282366920938463463374607431768211456) (hs : s < 64) :
    bits .or .u64 (lo64 ((q * 2 ^ (s + 1) : Nat) : Int)) (2 ^ s) = lo64 (((2 * q + 1) * 2 ^ s : Nat) : Int) ∧ hi64 ((q * 2 ^ (s + 1) : Nat) : Int) = hi64 (((2 * q + 1) * 2 ^ s : Nat) : Int) := by
  obtain ⟨t, ht⟩ : ∃ t, 64 = (s + 1) + t := ⟨63 - s, by omega⟩
  have e0 : (2 * q + 1) * 2 ^ s = q * 2 ^ (s + 1) + 2 ^ s := by rw [Nat.add_mul, Nat.one_mul, Nat.pow_succ, Nat.mul_comm (2 ^ s) 2, Nat.mul_assoc, ← Nat.mul_assoc q, Nat.mul_comm q 2, Nat.mul_assoc]
  have hl : 2 ^ s < 2 ^ (s + 1) := Nat.pow_lt_pow_right (by decide) (by omega)
  have hl2 : 2 ^ s < 18446744073709551616 := by rw [show 18446744073709551616 = 2 ^ 64 from rfl]; exact Nat.pow_lt_pow_right (by decide) hs
  have e1 : q * 2 ^ (s + 1) % 18446744073709551616 = 2 ^ (s + 1) * (q % 2 ^ t) := by
    rw [show 18446744073709551616 = 2 ^ (s + 1) * 2 ^ t by rw [← Nat.pow_add, ← ht], Nat.mul_comm q, Nat.mul_mod_mul_left]
  have h3 := Nat.two_pow_add_eq_or_of_lt hl (q % 2 ^ t)
  have h4 : 2 ^ (s + 1) * (q % 2 ^ t) + 2 ^ s < 18446744073709551616 := by
    have h5 : q % 2 ^ t + 1 ≤ 2 ^ t := Nat.mod_lt _ (Nat.two_pow_pos t)
    have h6 : 2 ^ (s + 1) * (q % 2 ^ t + 1) ≤ 2 ^ (s + 1) * 2 ^ t := Nat.mul_le_mul_left _ h5
    rw [← Nat.pow_add, ← ht, Nat.mul_add, Nat.mul_one, show (2 : Nat) ^ 64 = 18446744073709551616 from rfl] at h6
    omega
  rw [e0]
  rw [show (2 : Int) ^ s = ((2 ^ s : Nat) : Int) by simp]
  generalize q * 2 ^ (s + 1) = A at *
  generalize 2 ^ (s + 1) * (q % 2 ^ t) = C at *
  generalize 2 ^ s = B at *
  refine ⟨?_, ?_⟩
  · rw [show lo64 (A : Int) = (C : Int) by unfold lo64; omega, bits_or_u64_nat _ _ (by omega) hl2, ← h3]
    unfold lo64; omega
  · unfold hi64; omega
/-- One more bit. -/
theorem dv_two (T d b H r q : Nat) (hd : 0 < d) (hb : T % 2 = b) (hH : T / 2 = H) (hr : H % d = r) (hq : H / d = q) :
    b < 2 ∧ r < d ∧ (2 * r + b < d → T % d = 2 * r + b ∧ T / d = 2 * q) ∧ (¬ 2 * r + b < d → T % d = 2 * r + b - d ∧ T / d = 2 * q + 1) := by
  have h1 := Nat.mod_lt H hd
  have hm := Nat.div_add_mod H d
  rw [hr] at h1
  rw [hr, hq] at hm
  have b2 : b < 2 := by omega
  refine ⟨b2, h1, fun h => ?_, fun h => ?_⟩
  · have e : T = (2 * r + b) + d * (2 * q) := by rw [Nat.mul_left_comm]; omega
    rw [e, Nat.add_mul_mod_self_left, Nat.mod_eq_of_lt h, Nat.add_mul_div_left _ _ hd, Nat.div_eq_of_lt h]; omega
  · have e : T = (2 * r + b - d) + d * (2 * q + 1) := by rw [Nat.mul_add, Nat.mul_one, Nat.mul_left_comm]; omega
    have h' : 2 * r + b - d < d := by omega
    rw [e, Nat.add_mul_mod_self_left, Nat.mod_eq_of_lt h', Nat.add_mul_div_left _ _ hd, Nat.div_eq_of_lt h']; omega
theorem or_one (r b : Nat) (h : 2 * r + b < 18446744073709551616) (hb : b < 2) : bits .or .u64 ((r : Int) * 2) (b : Int) = ((2 * r + b : Nat) : Int) := by
  rw [show ((r : Int) * 2) = ((2 ^ 1 * r : Nat) : Int) by simp; omega, bits_or_u64_nat _ _ (by omega) (by omega), ← Nat.two_pow_add_eq_or_of_lt (by omega)]
end Go.Proofs.Ytokcdlcmamdloaa
/- Contracts of the reference's scalars (6): divided. -/
namespace Go.Proofs.Ytokcdlcmamdloaa
open Go.RowKit
set_option maxRecDepth 100000
theorem Wid.set0 {w : World} {b : Nat} {M N : Int} {m : Bool} (h : Wid w b M m) (hl : lo64 M = lo64 N) : Wid (w.setCell ⟨b, 0, none⟩ (.int .u64 (hi64 N))) b N m := by
  have := heap_setCell_same w b 0 _ _ (.int .u64 (hi64 N)) h
  rw [hl] at this
  exact this
theorem Wid.set1 {w : World} {b : Nat} {M N : Int} {m : Bool} (h : Wid w b M m) (hl : hi64 M = hi64 N) : Wid (w.setCell ⟨b, 1, none⟩ (.int .u64 (lo64 N))) b N m := by
  have := heap_setCell_same w b 1 _ _ (.int .u64 (lo64 N)) h
  rw [hl] at this
  exact this
theorem and63 : ∀ j, j < 128 → bits .and .i64 ((j : Nat) : Int) 63 = ((j % 64 : Nat) : Int) := by decide +kernel
theorem pow_wrap (s : Nat) (hs : s < 64) : IntKind.u64.wrap ((2 : Int) ^ s) = 2 ^ s := by
  have h : 2 ^ s < 18446744073709551616 := by rw [show 18446744073709551616 = 2 ^ 64 from rfl]; exact Nat.pow_lt_pow_right (by decide) hs
  rw [show (2 : Int) ^ s = ((2 ^ s : Nat) : Int) by simp]
  generalize 2 ^ s = x at *
  rw [IntKind.wrap_u64]
  omega
/-- What a round of 'divided' keeps. -/
structure DvR (M Q : Nat) (m : Bool) (w wr : World) : Prop where
  below : Below w.heap.size w wr
  a : Wid wr w.heap.size M m
  q : Wid wr (w.heap.size + 1 + 1) Q m
  z : Wid wr (w.heap.size + 1) 0 false
set_option maxHeartbeats 8000000 in
theorem rdivided_any (M d : Nat) (m : Bool) (w : World) (hM : M < 340282366920938463463374607431768211456) (d0 : 0 < d) (d1 : d ≤ 1152921504606846976) :
    Calls Try.prog 72 #[.agg #[.int .u64 (hi64 (M : Int)), .int .u64 (lo64 (M : Int)), .bool m], .int .u64 (d : Int)] w fun e w' =>
      e = .returned (.agg #[.int .u64 (hi64 (dvM M d : Nat)), .int .u64 (lo64 (dvM M d : Nat)), .bool m]) ∧ Below w.heap.size w w' := by
  have HM := Lib.hid (And.intro hM (And.intro d0 d1))
  have R0 : Hid (DvR M (M / 2 ^ 128 / d * 2 ^ 128) m w (((w.alloc (.cells #[.int .u64 (hi64 (M : Int)), .int .u64 (lo64 (M : Int)), .bool m] 103)).alloc (.cells #[.int .u64 0, .int .u64 0, .bool false] 103)).alloc (.cells #[.int .u64 0, .int .u64 0, .bool m] 103))) := by
    refine Lib.hid ⟨by (repeat (first | with_reducible exact Below.refl _ _ | with_reducible apply Below.drew | (with_reducible refine below_drewN ?_ _) | (with_reducible refine Below.alloc ?_ (by (try simp) <;> omega) _) | (with_reducible refine Below.setCell ?_ (by (try simp) <;> omega) _))), ((Wid.new w (M : Int) m).alloc _).alloc _, ?_, ?_⟩
    · have e : M / 2 ^ 128 = 0 := Nat.div_eq_of_lt hM
      rw [e, Nat.zero_div, Nat.zero_mul]
      have h := Wid.new ((w.alloc (.cells #[.int .u64 (hi64 (M : Int)), .int .u64 (lo64 (M : Int)), .bool m] 103)).alloc (.cells #[.int .u64 0, .int .u64 0, .bool false] 103)) 0 m
      rw [show hi64 0 = 0 by decide, show lo64 0 = 0 by decide] at h
      simpa using h
    · have h := (Wid.new (w.alloc (.cells #[.int .u64 (hi64 (M : Int)), .int .u64 (lo64 (M : Int)), .bool m] 103)) 0 false).alloc (.cells #[.int .u64 0, .int .u64 0, .bool m] 103)
      rw [show hi64 0 = 0 by decide, show lo64 0 = 0 by decide] at h
      simpa using h
  have E0 : ((M / 2 ^ 128 % d : Nat) : Int) = 0 := by rw [Nat.div_eq_of_lt hM]; simp
  clear hM d0 d1
  go_enter Try.func72, Try.ntmps72
  go_upto_region 4 with fail
  generalize ((w.alloc (.cells #[.int .u64 (hi64 (M : Int)), .int .u64 (lo64 (M : Int)), .bool m] 103)).alloc (.cells #[.int .u64 0, .int .u64 0, .bool false] 103)).alloc (.cells #[.int .u64 0, .int .u64 0, .bool m] 103) = W0 at *
  go_wp2_with fail
  go_loopw [6, 7, 8] (fun v6 v7 v8 wr => ∃ (k : Nat) (i : Int), k ≤ 128 ∧ i = (k : Int) - 1 ∧ v7 = .int .i64 i ∧ v6 = .int .u64 ((M / 2 ^ k % d : Nat) : Int) ∧ Hid (DvR M (M / 2 ^ k / d * 2 ^ k) m w wr)) (fun _ v _ _ => (intOf v + 1).toNat)
  case atStart => exact ⟨128, 127, by omega, by omega, rfl, by rw [E0], R0⟩
  case round =>
    obtain ⟨k, i, hk, hi, rfl, rfl, R⟩ := hrel
    clear R0 E0
    cases k with
    | zero =>
      obtain rfl : i = -1 := by omega
      rw [Nat.pow_zero, Nat.div_one, Nat.mul_one] at R
      rw [Nat.pow_zero, Nat.div_one]
      obtain ⟨bw, ba, qa, zb⟩ := R.out
      obtain ⟨⟨u0, u1, u2⟩, v0, v1, v2⟩ := qa.c
      have rl := Nat.mod_lt M HM.out.2.1
      obtain ⟨r, hr⟩ : ∃ r, M % d = r := ⟨_, rfl⟩
      obtain ⟨q, hq⟩ : ∃ q, M / d = q := ⟨_, rfl⟩
      rw [hr] at rl ⊢
      rw [hq] at u0 u1 qa
      have hsz := qa.lt
      obtain ⟨⟨z0, z1, z2⟩, x0, x1, x2⟩ := zb.c
      rw [show hi64 0 = 0 by decide] at z0
      rw [show lo64 0 = 0 by decide] at z1
      have e1 : IntKind.u64.wrap ((d : Int) - (r : Int)) = ((d - r : Nat) : Int) := by have := HM.out.2; rw [IntKind.wrap_u64]; omega
      obtain ⟨u, hu⟩ : ∃ u, d - r = u := ⟨_, rfl⟩
      rw [hu] at e1
      have HD := Lib.hid (show dvM M d = if r ≥ u then q + 1 else q by unfold dvM; rw [hr, hq, hu])
      have hq2 : q + 1 < 340282366920938463463374607431768211456 ∨ d = 1 := by
        by_cases h1 : d = 1
        · exact .inr h1
        · have : q ≤ M / 2 := by rw [← hq]; exact Nat.div_le_div_left (by have := HM.out.2; omega) (by decide)
          have := HM.out.1
          omega
      have HQ2 := Lib.hid hq2
      have HM2 := Lib.hid HM.out.2
      clear hq hr hq2 HM hi
      by_cases hg : u ≤ r
      · have g1 : decide (u ≤ r) = true := by simpa using hg
        have AD := Lib.hid (fun w => radd_any q 1 m m w (by have := HQ2.out; have := HM2.out; omega))
        rw [show adM m m q 1 = q + 1 from by unfold adM; simp, show adS m m q 1 = m from by unfold adS; simp] at AD
        rw [show hi64 ((1 : Nat) : Int) = 0 from by decide, show lo64 ((1 : Nat) : Int) = 1 from by decide] at AD
        rw [if_pos hg] at HD
        go_wp2_with fail
        refine (AD.out _).mono ?_; rintro e w1 ⟨rfl, hb1⟩
        have q1 := qa.below hb1
        have o1 := zb.below hb1
        have B1 := Lib.hid (bw.trans (hb1.mono bw.size))
        have hsz1 := q1.lt
        clear u0 u1 u2 v0 v1 v2 z0 z1 z2 x0 x1 x2 hsz R bw ba qa zb AD hb1
        obtain ⟨⟨u0, u1, u2⟩, v0, v1, v2⟩ := q1.c
        obtain ⟨⟨z0, z1, z2⟩, x0, x1, x2⟩ := o1.c
        rw [show hi64 0 = 0 by decide] at z0
        rw [show lo64 0 = 0 by decide] at z1
        go_wp2_with fail
        refine bodyPost_ret (v := .agg #[.int .u64 (hi64 ((q + 1 : Nat) : Int)), .int .u64 (lo64 ((q + 1 : Nat) : Int)), .bool m]) (by simp [results, Try.results72, go_sem, *]) rfl ⟨?_, ?_⟩
        · rw [HD.out]
        · have bw := B1.out
          (repeat (first | exact bw | (refine Below.setCell ?_ (by (try simp) <;> omega) _)))
      · have g1 : decide (u ≤ r) = false := by simpa using hg
        rw [if_neg hg] at HD
        go_wp2_with fail
        refine bodyPost_ret (v := .agg #[.int .u64 (hi64 (q : Int)), .int .u64 (lo64 (q : Int)), .bool m]) (by simp [results, Try.results72, go_sem, *]) rfl ⟨?_, ?_⟩
        · rw [HD.out]
        · (repeat (first | exact bw | (refine Below.setCell ?_ (by (try simp) <;> omega) _)))
    | succ j =>
      obtain rfl : i = (j : Int) := by omega
      have g1 : decide (0 ≤ (j : Int)) = true := by simp
      obtain ⟨T, hT⟩ : ∃ T, M / 2 ^ j = T := ⟨_, rfl⟩
      obtain ⟨H, hH⟩ : ∃ H, M / 2 ^ (j + 1) = H := ⟨_, rfl⟩
      obtain ⟨r, hr⟩ : ∃ r, H % d = r := ⟨_, rfl⟩
      obtain ⟨q, hq⟩ : ∃ q, H / d = q := ⟨_, rfl⟩
      obtain ⟨b, hb⟩ : ∃ b, T % 2 = b := ⟨_, rfl⟩
      obtain ⟨b2, r1, y1, y2⟩ := dv_two T d b H r q HM.out.2.1 hb (by rw [← hT, ← half_pow, hH]) hr hq
      rw [hH, hq] at R
      rw [hH, hr]
      have W2 := Lib.hid HM.out.2
      have e2 : IntKind.u64.wrap ((r : Int) * 2) = (r : Int) * 2 := by have := W2.out; rw [IntKind.wrap_u64]; omega
      have e3 := or_one r b (by have := W2.out; omega) b2
      obtain ⟨t, ht⟩ : ∃ t, 2 * r + b = t := ⟨_, rfl⟩
      rw [ht] at e3 y1 y2
      have t2 : t < 2 * d := by omega
      have qb : q * 2 ^ (j + 1) ≤ M := by rw [← hq, ← hH]; exact Nat.le_trans (Nat.mul_le_mul_right _ (Nat.div_le_self _ _)) (Nat.div_mul_le_self _ _)
      obtain ⟨Q, hQ⟩ : ∃ Q, q * 2 ^ (j + 1) = Q := ⟨_, rfl⟩
      rw [hQ] at R qb
      have HQ := Lib.hid hQ
      clear hQ
      obtain ⟨bw, ba, qa, zb⟩ := R.out
      obtain ⟨⟨c0, c1, c2⟩, _⟩ := ba.c
      obtain ⟨⟨u0, u1, u2⟩, v0, v1, v2⟩ := qa.c
      obtain ⟨s, hs⟩ : ∃ s, j % 64 = s := ⟨_, rfl⟩
      have s64 : s < 64 := by omega
      have f1 : bits .and .i64 (j : Int) 63 = (s : Int) := by rw [and63 j (by omega), hs]
      have f2 : IntKind.u64.wrap (s : Int) = (s : Int) := by rw [IntKind.wrap_u64]; omega
      have f3 := bit_lo M s s64
      have f4 := bit_hi M s HM.out.1
      have f5 := pow_wrap s s64
      have f6 : min s 64 = s := by omega
      have E2 := Lib.hid e2
      have Y := Lib.hid (And.intro y1 y2)
      have QB := Lib.hid qb
      have HM1 := Lib.hid HM.out.1
      clear e2 y1 y2 qb hr hq HM hi
      obtain ⟨bl, hbl⟩ : ∃ x, M / 2 ^ s % 2 = x := ⟨_, rfl⟩
      obtain ⟨bh, hbh⟩ : ∃ x, M / 2 ^ (64 + s) % 2 = x := ⟨_, rfl⟩
      rw [hbl] at f3
      rw [hbh] at f4
      have e2 := E2.out
      by_cases h64 : 64 ≤ j
      · have g2 : decide (64 ≤ (j : Int)) = true := by simp; omega
        have hj : j = 64 + s := by omega
        have HJ := Lib.hid hj
        obtain rfl : bh = b := by rw [← hbh, ← hb, ← hT, hj]
        clear hj hs hbl hbh hb
        by_cases hlt : t < d
        · have g3 : decide (d ≤ t) = false := by simp; omega
          have e0 : Q = 2 * q * 2 ^ j := by rw [← HQ.out, Nat.pow_succ, Nat.mul_comm (2 ^ j) 2, ← Nat.mul_assoc, Nat.mul_comm q 2]
          go_wp2_with fail
          go_roundw
          case rel =>
            refine ⟨j, (j : Int) - 1, by omega, rfl, by go_num, ?_, ?_⟩
            · rw [hT, (Y.out.1 hlt).1]
            · rw [hT, (Y.out.1 hlt).2, ← e0]; exact R
          case measure => simp [intOf]
        · have g3 : decide (d ≤ t) = true := by simp; omega
          obtain ⟨N, hN⟩ : ∃ N, (2 * q + 1) * 2 ^ j = N := ⟨_, rfl⟩
          have HN := Lib.hid hN
          have e4 : IntKind.u64.wrap ((t : Int) - (d : Int)) = ((t - d : Nat) : Int) := by have := W2.out; rw [IntKind.wrap_u64]; omega
          obtain ⟨u, hu⟩ : ∃ u, t - d = u := ⟨_, rfl⟩
          rw [hu] at e4
          obtain ⟨o1, o2⟩ := (show _ ∧ _ from by have := or_hi q s (by rw [← HJ.out, HQ.out]; have := QB.out; have := HM1.out; omega) s64; rw [← HJ.out, HQ.out] at this; exact this)
          rw [hN] at o1 o2
          clear hN
          go_wp2_with fail
          go_roundw
          case rel =>
            refine ⟨j, (j : Int) - 1, by omega, rfl, by go_num, ?_, ?_⟩
            · rw [hT, (Y.out.2 hlt).1, hu]
            · rw [hT, (Y.out.2 hlt).2, HN.out]
              exact Lib.hid ⟨bw.setCell (by simp; omega) _, ba.other (by simp; omega) _, qa.set0 o2, zb.other (by simp) _⟩
          case measure => simp [intOf]
      · have g2 : decide (64 ≤ (j : Int)) = false := by simp; omega
        have hj : j = s := by omega
        have HJ := Lib.hid hj
        obtain rfl : bl = b := by rw [← hbl, ← hb, ← hT, hj]
        clear hj hs hbl hbh hb
        by_cases hlt : t < d
        · have g3 : decide (d ≤ t) = false := by simp; omega
          have e0 : Q = 2 * q * 2 ^ j := by rw [← HQ.out, Nat.pow_succ, Nat.mul_comm (2 ^ j) 2, ← Nat.mul_assoc, Nat.mul_comm q 2]
          go_wp2_with fail
          go_roundw
          case rel =>
            refine ⟨j, (j : Int) - 1, by omega, rfl, by go_num, ?_, ?_⟩
            · rw [hT, (Y.out.1 hlt).1]
            · rw [hT, (Y.out.1 hlt).2, ← e0]; exact R
          case measure => simp [intOf]
        · have g3 : decide (d ≤ t) = true := by simp; omega
          obtain ⟨N, hN⟩ : ∃ N, (2 * q + 1) * 2 ^ j = N := ⟨_, rfl⟩
          have HN := Lib.hid hN
          have e4 : IntKind.u64.wrap ((t : Int) - (d : Int)) = ((t - d : Nat) : Int) := by have := W2.out; rw [IntKind.wrap_u64]; omega
          obtain ⟨u, hu⟩ : ∃ u, t - d = u := ⟨_, rfl⟩
          rw [hu] at e4
          obtain ⟨o1, o2⟩ := (show _ ∧ _ from by have := or_lo q s (by rw [← HJ.out, HQ.out]; have := QB.out; have := HM1.out; omega) s64; rw [← HJ.out, HQ.out, show (2 : Int) ^ j = 2 ^ s by rw [HJ.out]] at this; exact this)
          rw [hN] at o1 o2
          clear hN
          go_wp2_with fail
          go_roundw
          case rel =>
            refine ⟨j, (j : Int) - 1, by omega, rfl, by go_num, ?_, ?_⟩
            · rw [hT, (Y.out.2 hlt).1, hu]
            · rw [hT, (Y.out.2 hlt).2, HN.out]
              exact Lib.hid ⟨bw.setCell (by simp; omega) _, ba.other (by simp; omega) _, qa.set1 o2, zb.other (by simp) _⟩
          case measure => simp [intOf]
end Go.Proofs.Ytokcdlcmamdloaa
/- Contracts of the reference's scalars (7): Clamp, Sat, Add, Sub, Neg. -/
namespace Go.Proofs.Ytokcdlcmamdloaa
open Go.RowKit
set_option maxRecDepth 100000
theorem clamp1 {a lo hi : Int} (h : hi < lo ∨ a < lo) : clampV a lo hi = lo ∧ clampH a lo hi = true := by
  unfold clampV clampH
  rcases h with h | h <;> simp [h]
theorem clamp2 {a lo hi : Int} (h0 : ¬ hi < lo) (h1 : ¬ a < lo) (h : hi < a) : clampV a lo hi = hi ∧ clampH a lo hi = true := by
  simp [clampV, clampH, h0, h1, h]
theorem clamp3 {a lo hi : Int} (h0 : ¬ hi < lo) (h1 : ¬ a < lo) (h2 : ¬ hi < a) : clampV a lo hi = a ∧ clampH a lo hi = false := by
  simp [clampV, clampH, h0, h1, h2]
theorem rclamp_any (c : Addr) (h : Bool) (a lo hi : Int) (w : World) (hc : w.cell? c = some (.bool h)) (hf : w.frozen? c = false) :
    Calls Try.prog 37 #[.pointer (some c), .int .i64 a, .int .i64 lo, .int .i64 hi] w fun e w' =>
      e = .returned (.int .i64 (clampV a lo hi)) ∧ w.setCell c (.bool (h || clampH a lo hi)) = w' := by
  by_cases h1 : a < lo
  · obtain ⟨e1, e2⟩ := clamp1 (hi := hi) (.inr h1)
    rw [e1, e2, Bool.or_true]
    have d1 : decide (a < lo) = true := by simpa using h1
    have d2 : (lo != a) = true := by simp; omega
    clear e1 e2 h1
    go_enter Try.func37, Try.ntmps37
    go_wp2_with fail
    go_ret
    exact ⟨rfl, rfl⟩
  have d1 : decide (a < lo) = false := by simpa using h1
  by_cases h0 : hi < lo
  · obtain ⟨e1, e2⟩ := clamp1 (a := a) (.inl h0)
    rw [e1, e2, Bool.or_true]
    have d0 : decide (hi < lo) = true := by simpa using h0
    clear e1 e2 h0 h1
    by_cases h2 : lo = a
    · subst h2
      have d2 : (lo != lo) = false := by simp
      go_enter Try.func37, Try.ntmps37
      go_wp2_with fail
      go_ret
      exact ⟨rfl, rfl⟩
    · have d2 : (lo != a) = true := by simpa using h2
      clear h2
      go_enter Try.func37, Try.ntmps37
      go_wp2_with fail
      go_ret
      exact ⟨rfl, rfl⟩
  have d0 : decide (hi < lo) = false := by simpa using h0
  by_cases h2 : hi < a
  · obtain ⟨e1, e2⟩ := clamp2 h0 h1 h2
    rw [e1, e2, Bool.or_true]
    have d2 : decide (hi < a) = true := by simpa using h2
    have d3 : (hi != a) = true := by simp; omega
    clear e1 e2 h0 h1 h2
    go_enter Try.func37, Try.ntmps37
    go_wp2_with fail
    go_ret
    exact ⟨rfl, rfl⟩
  · obtain ⟨e1, e2⟩ := clamp3 h0 h1 h2
    rw [e1, e2, Bool.or_false, setCell_self w c _ hc]
    have d2 : decide (hi < a) = false := by simpa using h2
    have d3 : (a != a) = false := by simp
    clear e1 e2 h0 h1 h2
    go_enter Try.func37, Try.ntmps37
    go_wp2_with fail
    go_ret
    exact ⟨rfl, rfl⟩
theorem rsat_any (c : Addr) (h : Bool) (a : Int) (w : World) (hc : w.cell? c = some (.bool h)) (hf : w.frozen? c = false) :
    Calls Try.prog 39 #[.pointer (some c), .int .i64 a] w fun e w' => e = .returned (.int .i64 (satV a)) ∧ w.setCell c (.bool (h || satH a)) = w' := by
  go_enter Try.func39, Try.ntmps39
  go_wp2_with (go_at_call 37; refine (rclamp_any c h a _ _ _ hc hf).mono ?_; rintro e w' ⟨rfl, rfl⟩)
  go_ret
  exact ⟨rfl, rfl⟩
theorem rsub_any (c : Addr) (h : Bool) (a b : Int) (w : World) (hc : w.cell? c = some (.bool h)) (hf : w.frozen? c = false) :
    Calls Try.prog 43 #[.pointer (some c), .int .i64 a, .int .i64 b] w fun e w' =>
      e = .returned (.int .i64 (satV (satV a - satV b))) ∧ w.setCell c (.bool (h || satH a || satH b || satH (satV a - satV b))) = w' := by
  have ba := satV_bd a
  have bb := satV_bd b
  obtain ⟨x, hx⟩ : ∃ x, satV a = x := ⟨_, rfl⟩
  obtain ⟨y, hy⟩ : ∃ y, satV b = y := ⟨_, rfl⟩
  have c1 : (w.setCell c (.bool (h || satH a))).cell? c = some (.bool (h || satH a)) := World.cell?_setCell_same _ _ _ hc
  have c2 : ((w.setCell c (.bool (h || satH a))).setCell c (.bool (h || satH a || satH b))).cell? c = some (.bool (h || satH a || satH b)) := World.cell?_setCell_same _ _ _ c1
  have f1 : ∀ v, (w.setCell c v).frozen? c = false := fun v => by simp [hf]
  go_enter Try.func43, Try.ntmps43
  go_wp2_with fail
  refine (rsat_any c h a _ hc hf).mono ?_; rintro e w' ⟨rfl, rfl⟩
  go_wp2_with fail
  refine (rsat_any c _ b _ c1 (f1 _)).mono ?_; rintro e w' ⟨rfl, rfl⟩
  go_wp2_with fail
  obtain ⟨z, hz⟩ : ∃ z, satV (x - y) = z := ⟨_, rfl⟩
  refine (rsat_any c _ (x - y) _ c2 (by simp [hf])).mono ?_; rintro e w' ⟨rfl, rfl⟩
  go_wp2_with fail
  go_ret
  rw [hx, hy, hz]
  exact ⟨rfl, by simp only [setCell_setCell]⟩
theorem rplus_any (c : Addr) (h : Bool) (a b : Int) (w : World) (hc : w.cell? c = some (.bool h)) (hf : w.frozen? c = false) :
    Calls Try.prog 51 #[.pointer (some c), .int .i64 a, .int .i64 b] w fun e w' =>
      e = .returned (.int .i64 (satV (satV a + satV b))) ∧ w.setCell c (.bool (h || satH a || satH b || satH (satV a + satV b))) = w' := by
  have ba := satV_bd a
  have bb := satV_bd b
  obtain ⟨x, hx⟩ : ∃ x, satV a = x := ⟨_, rfl⟩
  obtain ⟨y, hy⟩ : ∃ y, satV b = y := ⟨_, rfl⟩
  have c1 : (w.setCell c (.bool (h || satH a))).cell? c = some (.bool (h || satH a)) := World.cell?_setCell_same _ _ _ hc
  have c2 : ((w.setCell c (.bool (h || satH a))).setCell c (.bool (h || satH a || satH b))).cell? c = some (.bool (h || satH a || satH b)) := World.cell?_setCell_same _ _ _ c1
  have f1 : ∀ v, (w.setCell c v).frozen? c = false := fun v => by simp [hf]
  go_enter Try.func51, Try.ntmps51
  go_wp2_with fail
  refine (rsat_any c h a _ hc hf).mono ?_; rintro e w' ⟨rfl, rfl⟩
  go_wp2_with fail
  refine (rsat_any c _ b _ c1 (f1 _)).mono ?_; rintro e w' ⟨rfl, rfl⟩
  go_wp2_with fail
  obtain ⟨z, hz⟩ : ∃ z, satV (x + y) = z := ⟨_, rfl⟩
  refine (rsat_any c _ (x + y) _ c2 (by simp [hf])).mono ?_; rintro e w' ⟨rfl, rfl⟩
  go_wp2_with fail
  go_ret
  rw [hx, hy, hz]
  exact ⟨rfl, by simp only [setCell_setCell]⟩
end Go.Proofs.Ytokcdlcmamdloaa
/- Contracts of the reference's scalars (8): Mul by 2^30 and 2^44, M. -/
namespace Go.Proofs.Ytokcdlcmamdloaa
open Go.RowKit
set_option maxRecDepth 100000
theorem sg2_mul (x y : Int) (P : Nat) (hP : x.natAbs * y.natAbs = P) : sv (sg2 x y) P = x * y := by
  subst hP
  unfold sv sg2
  have hx := Int.natAbs_mul x y
  by_cases h1 : x < 0 <;> by_cases h2 : y < 0
  · simp only [if_pos h1, if_pos h2, Bool.false_eq_true, if_false]
    rw [← hx]; have := Int.mul_pos_of_neg_of_neg h1 h2; omega
  · simp only [if_pos h1, if_neg h2, if_true]
    rw [← hx]; have := Int.mul_nonpos_of_nonpos_of_nonneg (Int.le_of_lt h1) (Int.not_lt.mp h2); omega
  · simp only [if_neg h1, if_pos h2, if_true]
    rw [← hx]; have := Int.mul_nonpos_of_nonneg_of_nonpos (Int.not_lt.mp h1) (Int.le_of_lt h2); omega
  · simp only [if_neg h1, if_neg h2, Bool.false_eq_true, if_false]
    rw [← hx]; have := Int.mul_nonneg (Int.not_lt.mp h1) (Int.not_lt.mp h2); omega
theorem abs_prod_bd (a b : Int) : (satV a).natAbs * (satV b).natAbs ≤ 1329227995784915872903807060280344576 := by
  have ha := satV_bd a
  have hb := satV_bd b
  exact Nat.le_trans (Nat.mul_le_mul (show (satV a).natAbs ≤ 1152921504606846976 by omega) (show (satV b).natAbs ≤ 1152921504606846976 by omega)) (by decide)
set_option maxHeartbeats 1000000 in
theorem rmulS (c : Addr) (h : Bool) (a b s x y : Int) (P N : Nat) (m : Bool) (w : World) (hc : w.cell? c = some (.bool h)) (hf : w.frozen? c = false)
    (hx : satV a = x) (hy : satV b = y)
    (hm : ∀ w, Calls Try.prog 66 #[.int .i64 x, .int .i64 y] w fun e w' => e = .returned (.agg #[.int .u64 (hi64 (P : Int)), .int .u64 (lo64 (P : Int)), .bool m]) ∧ Below w.heap.size w w')
    (hs : ∀ w, Calls Try.prog 68 #[.agg #[.int .u64 (hi64 (P : Int)), .int .u64 (lo64 (P : Int)), .bool m], .int .i64 s] w fun e w' =>
      e = .returned (.agg #[.int .u64 (hi64 (N : Int)), .int .u64 (lo64 (N : Int)), .bool m]) ∧ Below w.heap.size w w') :
    Calls Try.prog 52 #[.pointer (some c), .int .i64 a, .int .i64 b, .int .i64 s] w fun e w' => e = .returned (.int .i64 (satV (sv m N))) ∧ Upd c (h || satH a || satH b || satH (sv m N)) w w' := by
  have hcb := World.block_lt_of_cell? w c hc
  have c1 : (w.setCell c (.bool (h || satH a))).cell? c = some (.bool (h || satH a)) := World.cell?_setCell_same _ _ _ hc
  have c2 : ((w.setCell c (.bool (h || satH a))).setCell c (.bool (h || satH a || satH b))).cell? c = some (.bool (h || satH a || satH b)) := World.cell?_setCell_same _ _ _ c1
  have HM := Lib.hid hm
  have HR := Lib.hid hs
  have C2 := Lib.hid c2
  clear hm hs c2
  go_enter Try.func52, Try.ntmps52
  go_wp2_with fail
  refine (rsat_any c h a _ hc hf).mono ?_; rintro e w' ⟨rfl, rfl⟩
  go_wp2_with fail
  refine (rsat_any c _ b _ c1 (by simp [hf])).mono ?_; rintro e w' ⟨rfl, rfl⟩
  have HW := Lib.hid (Upd.trans (Upd.set c (h || satH a) w) (Upd.set c (h || satH a || satH b) _))
  have F2 : ((w.setCell c (.bool (h || satH a))).setCell c (.bool (h || satH a || satH b))).frozen? c = false := by simp [hf]
  have Z2 := Upd.size HW.out
  obtain ⟨w2, hw2⟩ : ∃ w2, (w.setCell c (.bool (h || satH a))).setCell c (.bool (h || satH a || satH b)) = w2 := ⟨_, rfl⟩
  rw [hw2] at HW C2 F2 Z2 ⊢
  clear hw2 c1 hc hf
  go_wp2_with fail
  refine (HM.out _).mono ?_; rintro e w3 ⟨rfl, hb3⟩
  have k1 : w3.cell? c = some (.bool (h || satH a || satH b)) := (hb3.cell (by omega)).trans C2.out
  have k2 : w3.frozen? c = false := (hb3.frozen (by omega)).trans F2
  have hz := hb3.size
  have HB3 := Lib.hid hb3
  clear hb3 C2 F2
  go_wp2_with fail
  refine (HR.out _).mono ?_; rintro e w4 ⟨rfl, hb4⟩
  have k3 : w4.cell? c = some (.bool (h || satH a || satH b)) := (hb4.cell (by omega)).trans k1
  have k4 : w4.frozen? c = false := (hb4.frozen (by omega)).trans k2
  have HB4 := Lib.hid hb4
  clear hb4 k1 k2
  go_wp2_with fail
  refine (rend2_any c _ N m _ k3 k4).mono ?_; rintro e w5 ⟨rfl, hu5⟩
  go_wp2_with fail
  go_ret
  exact ⟨rfl, HW.out.trans (Upd.after HB3.out (Upd.after HB4.out hu5))⟩
theorem rmul30_any (c : Addr) (h : Bool) (a b : Int) (w : World) (hc : w.cell? c = some (.bool h)) (hf : w.frozen? c = false) :
    Calls Try.prog 52 #[.pointer (some c), .int .i64 a, .int .i64 b, .int .i64 30] w fun e w' => e = .returned (.int .i64 (mulV a b 30)) ∧ Upd c (h || mulH a b 30) w w' := by
  have hp := abs_prod_bd a b
  have ba := satV_bd a
  have bb := satV_bd b
  obtain ⟨P, hP⟩ : ∃ P, (satV a).natAbs * (satV b).natAbs = P := ⟨_, rfl⟩
  have e1 : mulV a b 30 = satV (sv (sg2 (satV a) (satV b)) (shM P 30)) := by rw [← rsh_sv, sg2_mul _ _ P hP]; simp [mulV]
  have e2 : (h || mulH a b 30) = (h || satH a || satH b || satH (sv (sg2 (satV a) (satV b)) (shM P 30))) := by rw [← rsh_sv, sg2_mul _ _ P hP]; simp [mulH, Bool.or_assoc]
  rw [e1, e2]
  rw [hP] at hp
  exact rmulS c h a b 30 _ _ P _ _ w hc hf rfl rfl (fun w => rmul_any _ _ _ w ba.1 ba.2 bb.1 bb.2 (by rw [← hP]; simp)) (fun w => rshift30_any P _ w (by omega))
theorem rmul44_any (c : Addr) (h : Bool) (a b : Int) (w : World) (hc : w.cell? c = some (.bool h)) (hf : w.frozen? c = false) :
    Calls Try.prog 52 #[.pointer (some c), .int .i64 a, .int .i64 b, .int .i64 44] w fun e w' => e = .returned (.int .i64 (mulV a b 44)) ∧ Upd c (h || mulH a b 44) w w' := by
  have hp := abs_prod_bd a b
  have ba := satV_bd a
  have bb := satV_bd b
  obtain ⟨P, hP⟩ : ∃ P, (satV a).natAbs * (satV b).natAbs = P := ⟨_, rfl⟩
  have e1 : mulV a b 44 = satV (sv (sg2 (satV a) (satV b)) (shM P 44)) := by rw [← rsh_sv, sg2_mul _ _ P hP]; simp [mulV]
  have e2 : (h || mulH a b 44) = (h || satH a || satH b || satH (sv (sg2 (satV a) (satV b)) (shM P 44))) := by rw [← rsh_sv, sg2_mul _ _ P hP]; simp [mulH, Bool.or_assoc]
  rw [e1, e2]
  rw [hP] at hp
  exact rmulS c h a b 44 _ _ P _ _ w hc hf rfl rfl (fun w => rmul_any _ _ _ w ba.1 ba.2 bb.1 bb.2 (by rw [← hP]; simp)) (fun w => rshift44_any P _ w (by omega))
theorem rm_any (c : Addr) (h : Bool) (a b : Int) (w : World) (hc : w.cell? c = some (.bool h)) (hf : w.frozen? c = false) :
    Calls Try.prog 15 #[.pointer (some c), .int .i64 a, .int .i64 b] w fun e w' => e = .returned (.int .i64 (mulV a b 30)) ∧ Upd c (h || mulH a b 30) w w' := by
  go_enter Try.func15, Try.ntmps15
  go_wp2_with fail
  refine (rmul30_any c h a b _ hc hf).mono ?_; rintro e w1 ⟨rfl, hu⟩
  go_wp2_with fail
  go_ret
  exact ⟨rfl, hu⟩
end Go.Proofs.Ytokcdlcmamdloaa
/- Contracts of the reference's scalars (9): Div, D, MulDiv. -/
namespace Go.Proofs.Ytokcdlcmamdloaa
open Go.RowKit
set_option maxRecDepth 100000
theorem rdiv_sg (a b : Int) (hb : b ≠ 0) : rdiv a b = sv (sg2 a b) (dvM a.natAbs b.natAbs) := by
  have hd : 0 < b.natAbs := by omega
  have e := rdiv_dv false a.natAbs b.natAbs hd
  have h0 : dvM 0 b.natAbs = 0 := by unfold dvM; rw [Nat.zero_mod, Nat.zero_div, if_neg (by omega)]
  unfold rdiv
  have e2 : (((2 * a.natAbs + b.natAbs) / (2 * b.natAbs) : Nat) : Int) = (dvM a.natAbs b.natAbs : Int) := by
    have := e
    unfold rdiv sv at this
    simp only [Bool.false_eq_true, if_false, Int.natAbs_natCast] at this
    rw [if_pos (by simp; omega)] at this
    exact this
  rw [e2]
  by_cases ha0 : a = 0
  · subst ha0
    simp only [Int.natAbs_zero]
    rw [h0, sv_0]
    simp
  · unfold sv sg2
    by_cases h1 : a < 0 <;> by_cases h2 : b < 0
    · simp only [if_pos h1, if_pos h2, Bool.false_eq_true, if_false]
      rw [if_pos (by simp; omega)]
    · simp only [if_pos h1, if_neg h2, if_true]
      rw [if_neg (by simp; omega)]
    · simp only [if_neg h1, if_pos h2, if_true]
      rw [if_neg (by simp; omega)]
    · simp only [if_neg h1, if_neg h2, Bool.false_eq_true, if_false]
      rw [if_pos (by simp; omega)]
theorem sg2_pow (x y : Int) (s : Nat) : sg2 (x * 2 ^ s) y = sg2 x y := by
  have hp : (0 : Int) < 2 ^ s := Int.pow_pos (by decide)
  have : x * 2 ^ s < 0 ↔ x < 0 := by
    constructor
    · intro h; by_cases h1 : x < 0; exact h1
      have := Int.mul_nonneg (Int.not_lt.mp h1) (Int.le_of_lt hp); omega
    · intro h; exact Int.mul_neg_of_neg_of_pos h hp
  unfold sg2
  simp only [this]
set_option maxHeartbeats 1000000 in
theorem rdivs30 (c : Addr) (h : Bool) (a b x y : Int) (X Y M : Nat) (m bx b_y : Bool) (w : World) (hc : w.cell? c = some (.bool h)) (hf : w.frozen? c = false)
    (hx : satV a = x) (hy : satV b = y) (hX : x.natAbs = X) (hY : y.natAbs = Y) (hM : X * 1073741824 = M) (dx : decide (x < 0) = bx) (dy : decide (y < 0) = b_y) (hm : (!bx == b_y) = m) (y0 : (y == 0) = false) :
    Calls Try.prog 50 #[.pointer (some c), .int .i64 a, .int .i64 b, .int .i64 30] w fun e w' => e = .returned (.int .i64 (satV (sv m (dvM M Y)))) ∧ Upd c (h || satH a || satH b || satH (sv m (dvM M Y))) w w' := by
  have hcb := World.block_lt_of_cell? w c hc
  have bdx := satV_bd a
  have bdy := satV_bd b
  rw [hx] at bdx
  rw [hy] at bdy
  have y1 : 0 < Y := by have : y ≠ 0 := by simpa using y0
                        omega
  have e1 : (X : Int) / 17179869184 = hi64 (M : Int) := by rw [← hM]; unfold hi64; omega
  have e2 : IntKind.u64.wrap ((X : Int) * 1073741824) = lo64 (M : Int) := by rw [← hM, IntKind.wrap_u64]; unfold lo64; omega
  have SX := Lib.hid (fun w => rsize_any x w bdx.1 bdx.2)
  have SY := Lib.hid (fun w => rsize_any y w bdy.1 bdy.2)
  rw [hX] at SX
  rw [hY] at SY
  have DV := Lib.hid (fun w => rdivided_any M Y m w (by omega) y1 (by omega))
  have c1 : (w.setCell c (.bool (h || satH a))).cell? c = some (.bool (h || satH a)) := World.cell?_setCell_same _ _ _ hc
  have c2 : ((w.setCell c (.bool (h || satH a))).setCell c (.bool (h || satH a || satH b))).cell? c = some (.bool (h || satH a || satH b)) := World.cell?_setCell_same _ _ _ c1
  have C2 := Lib.hid c2
  clear c2 hX hY hM bdx bdy y1
  go_enter Try.func50, Try.ntmps50
  go_upto_region 2 with (refine (rsat_any c h a _ hc hf).mono ?_; rintro e w' ⟨rfl, rfl⟩)
  go_upto_region 3 with (refine (rsat_any c _ b _ c1 (by simp [hf])).mono ?_; rintro e w' ⟨rfl, rfl⟩)
  have HW := Lib.hid (Upd.trans (Upd.set c (h || satH a) w) (Upd.set c (h || satH a || satH b) _))
  have F2 : ((w.setCell c (.bool (h || satH a))).setCell c (.bool (h || satH a || satH b))).frozen? c = false := by simp [hf]
  have Z2 := Upd.size HW.out
  obtain ⟨w2, hw2⟩ : ∃ w2, (w.setCell c (.bool (h || satH a))).setCell c (.bool (h || satH a || satH b)) = w2 := ⟨_, rfl⟩
  rw [hw2] at HW C2 F2 Z2 ⊢
  clear hw2 c1 hc hf
  go_upto_region 17 with (refine (SX.out _).mono ?_; rintro e w' ⟨rfl, rfl⟩)
  have k1 : (w2.alloc (.cells #[.int .u64 (hi64 (M : Int)), .int .u64 (lo64 (M : Int)), .bool m] 103)).cell? c = some (.bool (h || satH a || satH b)) := by rw [World.cell?_alloc_lt _ _ _ (by omega)]; exact C2.out
  have k2 : (w2.alloc (.cells #[.int .u64 (hi64 (M : Int)), .int .u64 (lo64 (M : Int)), .bool m] 103)).frozen? c = false := by rw [frozen?_alloc_cells]; exact F2
  have D3 := Wid.new w2 (M : Int) m
  have B3 : Below w2.heap.size w2 (w2.alloc (.cells #[.int .u64 (hi64 (M : Int)), .int .u64 (lo64 (M : Int)), .bool m] 103)) := by (repeat (first | with_reducible exact Below.refl _ _ | with_reducible apply Below.drew | (with_reducible refine below_drewN ?_ _) | (with_reducible refine Below.alloc ?_ (by (try simp) <;> omega) _) | (with_reducible refine Below.setCell ?_ (by (try simp) <;> omega) _)))
  have z3 := D3.lt
  generalize w2.alloc (.cells #[.int .u64 (hi64 (M : Int)), .int .u64 (lo64 (M : Int)), .bool m] 103) = w3 at *
  have B3 := Lib.hid B3
  obtain ⟨⟨d0, d1, d2⟩, _⟩ := D3.c
  have nc : ∀ o, c ≠ ⟨w2.heap.size, o, none⟩ := fun o e => by rw [e] at hcb; simp at hcb; omega
  clear C2 F2 D3
  refine wp_region_M (fun w' => w'.cell? ⟨w2.heap.size, 0, none⟩ = some (.int .u64 (hi64 (M : Int))) ∧ w'.cell? ⟨w2.heap.size, 1, none⟩ = some (.int .u64 (lo64 (M : Int))) ∧ w'.cell? ⟨w2.heap.size, 2, none⟩ = some (.bool m)) 6 (by kernel_rfl) ?_ (fun hHeld => ?_)
  · exact ⟨d0, d1, d2⟩
  refine wpAnyM_take 0 (v := ?_) rfl (by kernel_rfl) (fun _ _ _ h => h) (Or.inl ⟨by rfl, ?_⟩) (by assumption) ?_
  rotate_left
  · (intro wx hSw; (try dsimp only at hSw); go_simp; (try with_reducible rfl))
  (try simp only [Act.put, List.setIfInBounds_toArray, List.set_cons_zero, List.set_cons_succ])
  refine wpAnyM_take 1 (v := ?_) rfl (by kernel_rfl) (fun _ _ _ h => h) (Or.inl ⟨by rfl, ?_⟩) (by assumption) ?_
  rotate_left
  · (intro wx hSw; (try dsimp only at hSw); go_simp; (try with_reducible rfl))
  (try simp only [Act.put, List.setIfInBounds_toArray, List.set_cons_zero, List.set_cons_succ])
  refine wpAnyM_take 2 (v := ?_) rfl (by kernel_rfl) (fun _ _ _ h => h) (Or.inl ⟨by rfl, ?_⟩) (by assumption) ?_
  rotate_left
  · (intro wx hSw; (try dsimp only at hSw); go_simp; (try with_reducible rfl))
  (try simp only [Act.put, List.setIfInBounds_toArray, List.set_cons_zero, List.set_cons_succ])
  refine wpAnyM_oneS 3 rfl (by kernel_rfl) (fun K hK => ?_)
  go_simp
  (refine (SY.out _).mono ?_; rintro e w' ⟨rfl, rfl⟩)
  (try dsimp only)
  (try simp only [Act.put, List.setIfInBounds_toArray, List.set_cons_zero, List.set_cons_succ])
  clear hHeld
  refine hK.out _ _ ?_ (fun hHeld => ?_)
  · exact ⟨d0, d1, d2⟩
  clear hK K
  (try simp only [Act.put, List.setIfInBounds_toArray, List.set_cons_zero, List.set_cons_succ])
  refine wpAnyM_oneS 4 rfl (by kernel_rfl) (fun K hK => ?_)
  go_simp
  (refine (DV.out _).mono ?_; rintro e w4 ⟨rfl, hb4⟩)
  (try dsimp only)
  (try simp only [Act.put, List.setIfInBounds_toArray, List.set_cons_zero, List.set_cons_succ])
  clear hHeld
  refine hK.out _ _ ?_ (fun hHeld => ?_)
  · exact ⟨(hb4.cell z3).trans d0, (hb4.cell z3).trans d1, (hb4.cell z3).trans d2⟩
  clear hK K
  (try simp only [Act.put, List.setIfInBounds_toArray, List.set_cons_zero, List.set_cons_succ])
  refine wpAnyM_oneS 5 rfl (by kernel_rfl) (fun K hK => ?_)
  go_simp
  (refine (rend2_any c _ (dvM M Y) m _ ((hb4.cell (by (try simp); omega)).trans (by simpa using k1)) ((hb4.frozen (by (try simp); omega)).trans (by simpa using k2))).mono ?_; rintro e w5 ⟨rfl, hu5⟩)
  (try dsimp only)
  (try simp only [Act.put, List.setIfInBounds_toArray, List.set_cons_zero, List.set_cons_succ])
  clear hHeld
  refine hK.out _ _ ?_ (fun hHeld => ?_)
  · have z4 : w2.heap.size < w4.heap.size := Nat.lt_of_lt_of_le z3 hb4.size; exact ⟨(hu5.cell z4 (nc 0)).trans ((hb4.cell z3).trans d0), (hu5.cell z4 (nc 1)).trans ((hb4.cell z3).trans d1), (hu5.cell z4 (nc 2)).trans ((hb4.cell z3).trans d2)⟩
  clear hK K
  (try simp only [Act.put, List.setIfInBounds_toArray, List.set_cons_zero, List.set_cons_succ])
  refine wpAnyM_one 6 rfl (by kernel_rfl) (fun K hK => ?_)
  go_simp
  refine hK.out _ _ (.inl (by kernel_rfl)) (fun _ => ?_)
  clear hK K
  (try simp only [Act.put, List.setIfInBounds_toArray, List.set_cons_zero, List.set_cons_succ])
  refine wpAnyM_done (by kernel_rfl) ?_ _
  go_wp2_with fail
  go_ret
  refine ⟨rfl, ?_⟩
  exact HW.out.trans (Upd.after B3.out (Upd.after (Below.drew (Below.refl _ _)) (Upd.after hb4 hu5)))
set_option maxHeartbeats 1000000 in
theorem rdivs44 (c : Addr) (h : Bool) (a b x y : Int) (X Y M : Nat) (m bx b_y : Bool) (w : World) (hc : w.cell? c = some (.bool h)) (hf : w.frozen? c = false)
    (hx : satV a = x) (hy : satV b = y) (hX : x.natAbs = X) (hY : y.natAbs = Y) (hM : X * 17592186044416 = M) (dx : decide (x < 0) = bx) (dy : decide (y < 0) = b_y) (hm : (!bx == b_y) = m) (y0 : (y == 0) = false) :
    Calls Try.prog 50 #[.pointer (some c), .int .i64 a, .int .i64 b, .int .i64 44] w fun e w' => e = .returned (.int .i64 (satV (sv m (dvM M Y)))) ∧ Upd c (h || satH a || satH b || satH (sv m (dvM M Y))) w w' := by
  have hcb := World.block_lt_of_cell? w c hc
  have bdx := satV_bd a
  have bdy := satV_bd b
  rw [hx] at bdx
  rw [hy] at bdy
  have y1 : 0 < Y := by have : y ≠ 0 := by simpa using y0
                        omega
  have e1 : (X : Int) / 1048576 = hi64 (M : Int) := by rw [← hM]; unfold hi64; omega
  have e2 : IntKind.u64.wrap ((X : Int) * 17592186044416) = lo64 (M : Int) := by rw [← hM, IntKind.wrap_u64]; unfold lo64; omega
  have SX := Lib.hid (fun w => rsize_any x w bdx.1 bdx.2)
  have SY := Lib.hid (fun w => rsize_any y w bdy.1 bdy.2)
  rw [hX] at SX
  rw [hY] at SY
  have DV := Lib.hid (fun w => rdivided_any M Y m w (by omega) y1 (by omega))
  have c1 : (w.setCell c (.bool (h || satH a))).cell? c = some (.bool (h || satH a)) := World.cell?_setCell_same _ _ _ hc
  have c2 : ((w.setCell c (.bool (h || satH a))).setCell c (.bool (h || satH a || satH b))).cell? c = some (.bool (h || satH a || satH b)) := World.cell?_setCell_same _ _ _ c1
  have C2 := Lib.hid c2
  clear c2 hX hY hM bdx bdy y1
  go_enter Try.func50, Try.ntmps50
  go_upto_region 2 with (refine (rsat_any c h a _ hc hf).mono ?_; rintro e w' ⟨rfl, rfl⟩)
  go_upto_region 3 with (refine (rsat_any c _ b _ c1 (by simp [hf])).mono ?_; rintro e w' ⟨rfl, rfl⟩)
  have HW := Lib.hid (Upd.trans (Upd.set c (h || satH a) w) (Upd.set c (h || satH a || satH b) _))
  have F2 : ((w.setCell c (.bool (h || satH a))).setCell c (.bool (h || satH a || satH b))).frozen? c = false := by simp [hf]
  have Z2 := Upd.size HW.out
  obtain ⟨w2, hw2⟩ : ∃ w2, (w.setCell c (.bool (h || satH a))).setCell c (.bool (h || satH a || satH b)) = w2 := ⟨_, rfl⟩
  rw [hw2] at HW C2 F2 Z2 ⊢
  clear hw2 c1 hc hf
  go_upto_region 17 with (refine (SX.out _).mono ?_; rintro e w' ⟨rfl, rfl⟩)
  have k1 : (w2.alloc (.cells #[.int .u64 (hi64 (M : Int)), .int .u64 (lo64 (M : Int)), .bool m] 103)).cell? c = some (.bool (h || satH a || satH b)) := by rw [World.cell?_alloc_lt _ _ _ (by omega)]; exact C2.out
  have k2 : (w2.alloc (.cells #[.int .u64 (hi64 (M : Int)), .int .u64 (lo64 (M : Int)), .bool m] 103)).frozen? c = false := by rw [frozen?_alloc_cells]; exact F2
  have D3 := Wid.new w2 (M : Int) m
  have B3 : Below w2.heap.size w2 (w2.alloc (.cells #[.int .u64 (hi64 (M : Int)), .int .u64 (lo64 (M : Int)), .bool m] 103)) := by (repeat (first | with_reducible exact Below.refl _ _ | with_reducible apply Below.drew | (with_reducible refine below_drewN ?_ _) | (with_reducible refine Below.alloc ?_ (by (try simp) <;> omega) _) | (with_reducible refine Below.setCell ?_ (by (try simp) <;> omega) _)))
  have z3 := D3.lt
  generalize w2.alloc (.cells #[.int .u64 (hi64 (M : Int)), .int .u64 (lo64 (M : Int)), .bool m] 103) = w3 at *
  have B3 := Lib.hid B3
  obtain ⟨⟨d0, d1, d2⟩, _⟩ := D3.c
  have nc : ∀ o, c ≠ ⟨w2.heap.size, o, none⟩ := fun o e => by rw [e] at hcb; simp at hcb; omega
  clear C2 F2 D3
  refine wp_region_M (fun w' => w'.cell? ⟨w2.heap.size, 0, none⟩ = some (.int .u64 (hi64 (M : Int))) ∧ w'.cell? ⟨w2.heap.size, 1, none⟩ = some (.int .u64 (lo64 (M : Int))) ∧ w'.cell? ⟨w2.heap.size, 2, none⟩ = some (.bool m)) 6 (by kernel_rfl) ?_ (fun hHeld => ?_)
  · exact ⟨d0, d1, d2⟩
  refine wpAnyM_take 0 (v := ?_) rfl (by kernel_rfl) (fun _ _ _ h => h) (Or.inl ⟨by rfl, ?_⟩) (by assumption) ?_
  rotate_left
  · (intro wx hSw; (try dsimp only at hSw); go_simp; (try with_reducible rfl))
  (try simp only [Act.put, List.setIfInBounds_toArray, List.set_cons_zero, List.set_cons_succ])
  refine wpAnyM_take 1 (v := ?_) rfl (by kernel_rfl) (fun _ _ _ h => h) (Or.inl ⟨by rfl, ?_⟩) (by assumption) ?_
  rotate_left
  · (intro wx hSw; (try dsimp only at hSw); go_simp; (try with_reducible rfl))
  (try simp only [Act.put, List.setIfInBounds_toArray, List.set_cons_zero, List.set_cons_succ])
  refine wpAnyM_take 2 (v := ?_) rfl (by kernel_rfl) (fun _ _ _ h => h) (Or.inl ⟨by rfl, ?_⟩) (by assumption) ?_
  rotate_left
  · (intro wx hSw; (try dsimp only at hSw); go_simp; (try with_reducible rfl))
  (try simp only [Act.put, List.setIfInBounds_toArray, List.set_cons_zero, List.set_cons_succ])
  refine wpAnyM_oneS 3 rfl (by kernel_rfl) (fun K hK => ?_)
  go_simp
  (refine (SY.out _).mono ?_; rintro e w' ⟨rfl, rfl⟩)
  (try dsimp only)
  (try simp only [Act.put, List.setIfInBounds_toArray, List.set_cons_zero, List.set_cons_succ])
  clear hHeld
  refine hK.out _ _ ?_ (fun hHeld => ?_)
  · exact ⟨d0, d1, d2⟩
  clear hK K
  (try simp only [Act.put, List.setIfInBounds_toArray, List.set_cons_zero, List.set_cons_succ])
  refine wpAnyM_oneS 4 rfl (by kernel_rfl) (fun K hK => ?_)
  go_simp
  (refine (DV.out _).mono ?_; rintro e w4 ⟨rfl, hb4⟩)
  (try dsimp only)
  (try simp only [Act.put, List.setIfInBounds_toArray, List.set_cons_zero, List.set_cons_succ])
  clear hHeld
  refine hK.out _ _ ?_ (fun hHeld => ?_)
  · exact ⟨(hb4.cell z3).trans d0, (hb4.cell z3).trans d1, (hb4.cell z3).trans d2⟩
  clear hK K
  (try simp only [Act.put, List.setIfInBounds_toArray, List.set_cons_zero, List.set_cons_succ])
  refine wpAnyM_oneS 5 rfl (by kernel_rfl) (fun K hK => ?_)
  go_simp
  (refine (rend2_any c _ (dvM M Y) m _ ((hb4.cell (by (try simp); omega)).trans (by simpa using k1)) ((hb4.frozen (by (try simp); omega)).trans (by simpa using k2))).mono ?_; rintro e w5 ⟨rfl, hu5⟩)
  (try dsimp only)
  (try simp only [Act.put, List.setIfInBounds_toArray, List.set_cons_zero, List.set_cons_succ])
  clear hHeld
  refine hK.out _ _ ?_ (fun hHeld => ?_)
  · have z4 : w2.heap.size < w4.heap.size := Nat.lt_of_lt_of_le z3 hb4.size; exact ⟨(hu5.cell z4 (nc 0)).trans ((hb4.cell z3).trans d0), (hu5.cell z4 (nc 1)).trans ((hb4.cell z3).trans d1), (hu5.cell z4 (nc 2)).trans ((hb4.cell z3).trans d2)⟩
  clear hK K
  (try simp only [Act.put, List.setIfInBounds_toArray, List.set_cons_zero, List.set_cons_succ])
  refine wpAnyM_one 6 rfl (by kernel_rfl) (fun K hK => ?_)
  go_simp
  refine hK.out _ _ (.inl (by kernel_rfl)) (fun _ => ?_)
  clear hK K
  (try simp only [Act.put, List.setIfInBounds_toArray, List.set_cons_zero, List.set_cons_succ])
  refine wpAnyM_done (by kernel_rfl) ?_ _
  go_wp2_with fail
  go_ret
  refine ⟨rfl, ?_⟩
  exact HW.out.trans (Upd.after B3.out (Upd.after (Below.drew (Below.refl _ _)) (Upd.after hb4 hu5)))
set_option maxHeartbeats 2000000 in
theorem rdivs0 (c : Addr) (h : Bool) (a b s : Int) (w : World) (hc : w.cell? c = some (.bool h)) (hf : w.frozen? c = false) (hy : satV b = 0) :
    Calls Try.prog 50 #[.pointer (some c), .int .i64 a, .int .i64 b, .int .i64 s] w fun e w' =>
      e = .returned (.int .i64 (if satV a = 0 then 0 else if satV a < 0 then -1152921504606846976 else 1152921504606846976)) ∧ Upd c true w w' := by
  obtain ⟨x, hx⟩ : ∃ x, satV a = x := ⟨_, rfl⟩
  have c1 : (w.setCell c (.bool (h || satH a))).cell? c = some (.bool (h || satH a)) := World.cell?_setCell_same _ _ _ hc
  have c2 : ((w.setCell c (.bool (h || satH a))).setCell c (.bool (h || satH a || satH b))).cell? c = some (.bool (h || satH a || satH b)) := World.cell?_setCell_same _ _ _ c1
  have F2 : ((w.setCell c (.bool (h || satH a))).setCell c (.bool (h || satH a || satH b))).frozen? c = false := by simp [hf]
  have HV := Lib.hid (show ∀ v, (if x = 0 then 0 else if x < 0 then -1152921504606846976 else 1152921504606846976) = v → (if satV a = 0 then 0 else if satV a < 0 then -1152921504606846976 else 1152921504606846976) = v from fun v hv => by rw [hx]; exact hv)
  have C2 := Lib.hid c2
  have HF2 := Lib.hid F2
  clear c2 F2
  have HX := Lib.hid (show (0 < x ∨ x = 0 ∨ x < 0) by omega)
  rcases HX.out with g | g | g
  · have g1 : decide (0 < x) = true := by simpa using g
    rw [HV.out 1152921504606846976 (by rw [if_neg (by omega), if_neg (by omega)])]
    clear HX HV g
    go_enter Try.func50, Try.ntmps50
    go_upto_region 2 with (refine (rsat_any c h a _ hc hf).mono ?_; rintro e w' ⟨rfl, rfl⟩)
    go_upto_region 3 with (refine (rsat_any c _ b _ c1 (by simp [hf])).mono ?_; rintro e w' ⟨rfl, rfl⟩)
    have HW := Lib.hid (Upd.trans (Upd.trans (Upd.set c (h || satH a) w) (Upd.set c (h || satH a || satH b) _)) (Upd.set c true _))
    have c2 := C2.out
    have f2 := HF2.out
    clear C2 HF2 c1
    generalize (w.setCell c (.bool (h || satH a))).setCell c (.bool (h || satH a || satH b)) = w2 at *
    go_wp2_with fail
    go_ret
    exact ⟨rfl, HW.out⟩
  · subst g
    have g1 : decide ((0 : Int) < 0) = false := by decide
    rw [HV.out 0 (by rw [if_pos rfl])]
    clear HX HV
    go_enter Try.func50, Try.ntmps50
    go_upto_region 2 with (refine (rsat_any c h a _ hc hf).mono ?_; rintro e w' ⟨rfl, rfl⟩)
    go_upto_region 3 with (refine (rsat_any c _ b _ c1 (by simp [hf])).mono ?_; rintro e w' ⟨rfl, rfl⟩)
    have HW := Lib.hid (Upd.trans (Upd.trans (Upd.set c (h || satH a) w) (Upd.set c (h || satH a || satH b) _)) (Upd.set c true _))
    have c2 := C2.out
    have f2 := HF2.out
    clear C2 HF2 c1
    generalize (w.setCell c (.bool (h || satH a))).setCell c (.bool (h || satH a || satH b)) = w2 at *
    go_wp2_with fail
    go_ret
    exact ⟨rfl, HW.out⟩
  · have g1 : decide (0 < x) = false := by simp; omega
    have g2 : decide (x < 0) = true := by simpa using g
    rw [HV.out (-1152921504606846976) (by rw [if_neg (by omega), if_pos g])]
    clear HX HV g
    go_enter Try.func50, Try.ntmps50
    go_upto_region 2 with (refine (rsat_any c h a _ hc hf).mono ?_; rintro e w' ⟨rfl, rfl⟩)
    go_upto_region 3 with (refine (rsat_any c _ b _ c1 (by simp [hf])).mono ?_; rintro e w' ⟨rfl, rfl⟩)
    have HW := Lib.hid (Upd.trans (Upd.trans (Upd.set c (h || satH a) w) (Upd.set c (h || satH a || satH b) _)) (Upd.set c true _))
    have c2 := C2.out
    have f2 := HF2.out
    clear C2 HF2 c1
    generalize (w.setCell c (.bool (h || satH a))).setCell c (.bool (h || satH a || satH b)) = w2 at *
    go_wp2_with fail
    go_ret
    exact ⟨rfl, HW.out⟩
theorem dv_fact (s : Nat) (x y : Int) (X M P : Nat) (hX : x.natAbs = X) (hp : 2 ^ s = P) (hM : X * P = M) (hy : y ≠ 0) : rdiv (x * 2 ^ s) y = sv (sg2 x y) (dvM M y.natAbs) := by
  rw [rdiv_sg _ _ hy, sg2_pow]
  congr 2
  rw [Int.natAbs_mul, hX, ← hM, ← hp]
  congr 1
theorem sg2_ne (x y : Int) : (!decide (x < 0) == decide (y < 0)) = sg2 x y := by
  unfold sg2
  by_cases h1 : x < 0 <;> by_cases h2 : y < 0 <;> simp [h1, h2]
theorem rdiv30_any (c : Addr) (h : Bool) (a b : Int) (w : World) (hc : w.cell? c = some (.bool h)) (hf : w.frozen? c = false) :
    Calls Try.prog 50 #[.pointer (some c), .int .i64 a, .int .i64 b, .int .i64 30] w fun e w' => e = .returned (.int .i64 (divV a b 30)) ∧ Upd c (h || divH a b 30) w w' := by
  by_cases hy : satV b = 0
  · have e2 : (h || divH a b 30) = true := by simp [divH, byH, hy]
    have hp : (0 : Int) < 2 ^ 30 := by decide
    have e1 : divV a b 30 = (if satV a = 0 then 0 else if satV a < 0 then -1152921504606846976 else 1152921504606846976) := by
      unfold divV byV
      rw [if_neg (by decide), if_pos hy]
      rw [show ((30 : Int).toNat) = 30 from rfl]
      generalize satV a = x
      have k : (2 : Int) ^ 30 = 1073741824 := by decide
      rw [k]
      by_cases h0 : x = 0
      · rw [if_pos (by omega), if_pos h0]
      · rw [if_neg (by omega), if_neg h0]
        by_cases h1 : x < 0
        · rw [if_pos (by omega), if_pos h1]
        · rw [if_neg (by omega), if_neg h1]
    rw [e1, e2]
    exact rdivs0 c h a b 30 w hc hf hy
  · have k := dv_fact 30 (satV a) (satV b) _ _ 1073741824 rfl (by decide) rfl hy
    have e1 : divV a b 30 = satV (sv (sg2 (satV a) (satV b)) (dvM ((satV a).natAbs * 1073741824) (satV b).natAbs)) := by
      rw [← k]; unfold divV byV
      rw [if_neg (by decide), if_neg hy]; rfl
    have e2 : (h || divH a b 30) = (h || satH a || satH b || satH (sv (sg2 (satV a) (satV b)) (dvM ((satV a).natAbs * 1073741824) (satV b).natAbs))) := by
      rw [← k]; unfold divH byH
      rw [show decide ((30 : Int) < 0 ∨ 66 < (30 : Int)) = false by decide, show decide (satV b = 0) = false by simpa using hy]
      simp only [Bool.false_or, Bool.or_assoc]; rfl
    rw [e1, e2]
    exact rdivs30 c h a b _ _ _ _ _ _ _ _ w hc hf rfl rfl rfl rfl rfl rfl rfl (sg2_ne _ _) (by simpa using hy)
theorem rdiv44_any (c : Addr) (h : Bool) (a b : Int) (w : World) (hc : w.cell? c = some (.bool h)) (hf : w.frozen? c = false) :
    Calls Try.prog 50 #[.pointer (some c), .int .i64 a, .int .i64 b, .int .i64 44] w fun e w' => e = .returned (.int .i64 (divV a b 44)) ∧ Upd c (h || divH a b 44) w w' := by
  by_cases hy : satV b = 0
  · have e2 : (h || divH a b 44) = true := by simp [divH, byH, hy]
    have hp : (0 : Int) < 2 ^ 44 := by decide
    have e1 : divV a b 44 = (if satV a = 0 then 0 else if satV a < 0 then -1152921504606846976 else 1152921504606846976) := by
      unfold divV byV
      rw [if_neg (by decide), if_pos hy]
      rw [show ((44 : Int).toNat) = 44 from rfl]
      generalize satV a = x
      have k : (2 : Int) ^ 44 = 17592186044416 := by decide
      rw [k]
      by_cases h0 : x = 0
      · rw [if_pos (by omega), if_pos h0]
      · rw [if_neg (by omega), if_neg h0]
        by_cases h1 : x < 0
        · rw [if_pos (by omega), if_pos h1]
        · rw [if_neg (by omega), if_neg h1]
    rw [e1, e2]
    exact rdivs0 c h a b 44 w hc hf hy
  · have k := dv_fact 44 (satV a) (satV b) _ _ 17592186044416 rfl (by decide) rfl hy
    have e1 : divV a b 44 = satV (sv (sg2 (satV a) (satV b)) (dvM ((satV a).natAbs * 17592186044416) (satV b).natAbs)) := by
      rw [← k]; unfold divV byV
      rw [if_neg (by decide), if_neg hy]; rfl
    have e2 : (h || divH a b 44) = (h || satH a || satH b || satH (sv (sg2 (satV a) (satV b)) (dvM ((satV a).natAbs * 17592186044416) (satV b).natAbs))) := by
      rw [← k]; unfold divH byH
      rw [show decide ((44 : Int) < 0 ∨ 66 < (44 : Int)) = false by decide, show decide (satV b = 0) = false by simpa using hy]
      simp only [Bool.false_or, Bool.or_assoc]; rfl
    rw [e1, e2]
    exact rdivs44 c h a b _ _ _ _ _ _ _ _ w hc hf rfl rfl rfl rfl rfl rfl rfl (sg2_ne _ _) (by simpa using hy)
theorem rd_any (c : Addr) (h : Bool) (a b : Int) (w : World) (hc : w.cell? c = some (.bool h)) (hf : w.frozen? c = false) :
    Calls Try.prog 41 #[.pointer (some c), .int .i64 a, .int .i64 b] w fun e w' => e = .returned (.int .i64 (divV a b 30)) ∧ Upd c (h || divH a b 30) w w' := by
  go_enter Try.func41, Try.ntmps41
  go_wp2_with fail
  refine (rdiv30_any c h a b _ hc hf).mono ?_; rintro e w1 ⟨rfl, hu⟩
  go_wp2_with fail
  go_ret
  exact ⟨rfl, hu⟩
end Go.Proofs.Ytokcdlcmamdloaa
/- Contracts of the reference's scalars (10): MulDiv. -/
namespace Go.Proofs.Ytokcdlcmamdloaa
open Go.RowKit
set_option maxRecDepth 100000
theorem Wid.set2 {w : World} {b : Nat} {M : Int} {m : Bool} (h : Wid w b M m) (n : Bool) : Wid (w.setCell ⟨b, 2, none⟩ (.bool n)) b M n :=
  heap_setCell_same w b 2 _ _ (.bool n) h
set_option maxHeartbeats 2000000 in
theorem rmdS (c : Addr) (h : Bool) (a b d x y z : Int) (P Z : Nat) (m bz n : Bool) (w : World) (hc : w.cell? c = some (.bool h)) (hf : w.frozen? c = false)
    (hx : satV a = x) (hy : satV b = y) (hz : satV d = z) (hZ : z.natAbs = Z) (hP : P ≤ 1329227995784915872903807060280344576) (dz : decide (z < 0) = bz) (hn : (!m == bz) = n) (z0 : (z == 0) = false)
    (hm : ∀ w, Calls Try.prog 66 #[.int .i64 x, .int .i64 y] w fun e w' => e = .returned (.agg #[.int .u64 (hi64 (P : Int)), .int .u64 (lo64 (P : Int)), .bool m]) ∧ Below w.heap.size w w') :
    Calls Try.prog 49 #[.pointer (some c), .int .i64 a, .int .i64 b, .int .i64 d] w fun e w' => e = .returned (.int .i64 (satV (sv n (dvM P Z)))) ∧ Upd c (h || satH a || satH b || satH d || satH (sv n (dvM P Z))) w w' := by
  have hcb := World.block_lt_of_cell? w c hc
  have bdz := satV_bd d
  rw [hz] at bdz
  have y1 : 0 < Z := by have : z ≠ 0 := by simpa using z0
                        omega
  have HM := Lib.hid hm
  have SZ := Lib.hid (fun w => rsize_any z w bdz.1 bdz.2)
  rw [hZ] at SZ
  have DV := Lib.hid (fun w => rdivided_any P Z n w (by omega) y1 (by omega))
  have c1 : (w.setCell c (.bool (h || satH a))).cell? c = some (.bool (h || satH a)) := World.cell?_setCell_same _ _ _ hc
  have c2 : ((w.setCell c (.bool (h || satH a))).setCell c (.bool (h || satH a || satH b))).cell? c = some (.bool (h || satH a || satH b)) := World.cell?_setCell_same _ _ _ c1
  have C2 := Lib.hid c2
  clear c2 hZ hP bdz y1 hm
  go_enter Try.func49, Try.ntmps49
  go_wp2_with fail
  refine (rsat_any c h a _ hc hf).mono ?_; rintro e w' ⟨rfl, rfl⟩
  go_wp2_with fail
  refine (rsat_any c _ b _ c1 (by simp [hf])).mono ?_; rintro e w' ⟨rfl, rfl⟩
  have HW := Lib.hid (Upd.trans (Upd.set c (h || satH a) w) (Upd.set c (h || satH a || satH b) _))
  have F2 : ((w.setCell c (.bool (h || satH a))).setCell c (.bool (h || satH a || satH b))).frozen? c = false := by simp [hf]
  have Z2 := Upd.size HW.out
  obtain ⟨w2, hw2⟩ : ∃ w2, (w.setCell c (.bool (h || satH a))).setCell c (.bool (h || satH a || satH b)) = w2 := ⟨_, rfl⟩
  rw [hw2] at HW C2 F2 Z2 ⊢
  clear hw2 c1 hc hf
  go_wp2_with fail
  refine (HM.out _).mono ?_; rintro e w3 ⟨rfl, hb3⟩
  have k1 : w3.cell? c = some (.bool (h || satH a || satH b)) := (hb3.cell (by omega)).trans C2.out
  have k2 : w3.frozen? c = false := (hb3.frozen (by omega)).trans F2
  have hs3 := hb3.size
  have HB3 := Lib.hid hb3
  clear hb3 C2 F2
  have k3 : ∀ o, (w3.alloc o).cell? c = some (.bool (h || satH a || satH b)) := fun o => by rw [World.cell?_alloc_lt _ _ _ (by omega)]; exact k1
  have k4 : ∀ cs t, (w3.alloc (.cells cs t)).frozen? c = false := fun cs t => by rw [frozen?_alloc_cells]; exact k2
  have D3 := Lib.hid (Wid.new w3 (P : Int) m)
  have B3 : Hid (Below w3.heap.size w3 (w3.alloc (.cells #[.int .u64 (hi64 (P : Int)), .int .u64 (lo64 (P : Int)), .bool m] 103))) := Lib.hid (by (repeat (first | with_reducible exact Below.refl _ _ | with_reducible apply Below.drew | (with_reducible refine below_drewN ?_ _) | (with_reducible refine Below.alloc ?_ (by (try simp) <;> omega) _) | (with_reducible refine Below.setCell ?_ (by (try simp) <;> omega) _))))
  go_upto_region 2 with fail
  have k5 := k3 (.cells #[.int .u64 (hi64 (P : Int)), .int .u64 (lo64 (P : Int)), .bool m] 103)
  have k6 := k4 #[.int .u64 (hi64 (P : Int)), .int .u64 (lo64 (P : Int)), .bool m] 103
  clear k1 k2 k3 k4
  obtain ⟨pb, hpb⟩ : ∃ pb, w3.heap.size = pb := ⟨_, rfl⟩
  generalize w3.alloc (.cells #[.int .u64 (hi64 (P : Int)), .int .u64 (lo64 (P : Int)), .bool m] 103) = w4 at *
  rw [hpb] at D3 ⊢
  have hcp : c.block < pb := by omega
  have hnc : pb ≠ c.block := by omega
  go_upto_region 3 with (refine (rsat_any c _ d _ k5 k6).mono ?_; rintro e w' ⟨rfl, rfl⟩)
  have c5 : (w4.setCell c (.bool (h || satH a || satH b || satH d))).cell? c = some (.bool (h || satH a || satH b || satH d)) := World.cell?_setCell_same _ _ _ k5
  have f5 : (w4.setCell c (.bool (h || satH a || satH b || satH d))).frozen? c = false := by simp [k6]
  have D5 := Lib.hid (D3.out.other (a := c) hnc (.bool (h || satH a || satH b || satH d)))
  have U5 := Lib.hid (Upd.set c (h || satH a || satH b || satH d) w4)
  have hs5 : w4.heap.size = (w4.setCell c (.bool (h || satH a || satH b || satH d))).heap.size := (setCell_size _ _ _).symm
  generalize w4.setCell c (.bool (h || satH a || satH b || satH d)) = w5 at *
  clear k5 k6 D3
  obtain ⟨⟨d0, d1, d2⟩, v0, v1, v2⟩ := D5.out.c
  go_upto_region 11 with fail
  have D6 := D5.out.set2 n
  have hwp : w.heap.size ≤ pb := by omega
  have B6 := Lib.hid (show Below w.heap.size w5 (w5.setCell ⟨pb, 2, none⟩ (.bool n)) from (Below.refl _ _).setCell hwp _)
  have k1 : (w5.setCell ⟨pb, 2, none⟩ (.bool n)).cell? c = some (.bool (h || satH a || satH b || satH d)) := (World.cell?_setCell_other _ _ _ _ (fun e => by rw [← e] at hcp; simp at hcp)).trans c5
  have k2 : (w5.setCell ⟨pb, 2, none⟩ (.bool n)).frozen? c = false := by simp [f5]
  have hs6 : w5.heap.size = (w5.setCell ⟨pb, 2, none⟩ (.bool n)).heap.size := (setCell_size _ _ _).symm
  clear D5 d0 d1 d2 v0 v1 v2 c5 f5
  generalize w5.setCell ⟨pb, 2, none⟩ (.bool n) = w6 at *
  have z6 := D6.lt
  obtain ⟨⟨d0, d1, d2⟩, _⟩ := D6.c
  have nc : ∀ o, c ≠ ⟨pb, o, none⟩ := fun o e => by rw [e] at hcp; simp at hcp
  refine wp_region_M (fun w' => w'.cell? ⟨pb, 0, none⟩ = some (.int .u64 (hi64 (P : Int))) ∧ w'.cell? ⟨pb, 1, none⟩ = some (.int .u64 (lo64 (P : Int))) ∧ w'.cell? ⟨pb, 2, none⟩ = some (.bool n)) 6 (by kernel_rfl) ?_ (fun hHeld => ?_)
  · exact ⟨d0, d1, d2⟩
  refine wpAnyM_take 0 (v := ?_) rfl (by kernel_rfl) (fun _ _ _ h => h) (Or.inl ⟨by rfl, ?_⟩) (by assumption) ?_
  rotate_left
  · (intro wx hSw; (try dsimp only at hSw); go_simp; (try with_reducible rfl))
  (try simp only [Act.put, List.setIfInBounds_toArray, List.set_cons_zero, List.set_cons_succ])
  refine wpAnyM_take 1 (v := ?_) rfl (by kernel_rfl) (fun _ _ _ h => h) (Or.inl ⟨by rfl, ?_⟩) (by assumption) ?_
  rotate_left
  · (intro wx hSw; (try dsimp only at hSw); go_simp; (try with_reducible rfl))
  (try simp only [Act.put, List.setIfInBounds_toArray, List.set_cons_zero, List.set_cons_succ])
  refine wpAnyM_take 2 (v := ?_) rfl (by kernel_rfl) (fun _ _ _ h => h) (Or.inl ⟨by rfl, ?_⟩) (by assumption) ?_
  rotate_left
  · (intro wx hSw; (try dsimp only at hSw); go_simp; (try with_reducible rfl))
  (try simp only [Act.put, List.setIfInBounds_toArray, List.set_cons_zero, List.set_cons_succ])
  refine wpAnyM_oneS 3 rfl (by kernel_rfl) (fun K hK => ?_)
  go_simp
  (refine (SZ.out _).mono ?_; rintro e w' ⟨rfl, rfl⟩)
  (try dsimp only)
  (try simp only [Act.put, List.setIfInBounds_toArray, List.set_cons_zero, List.set_cons_succ])
  clear hHeld
  refine hK.out _ _ ?_ (fun hHeld => ?_)
  · exact ⟨d0, d1, d2⟩
  clear hK K
  (try simp only [Act.put, List.setIfInBounds_toArray, List.set_cons_zero, List.set_cons_succ])
  refine wpAnyM_oneS 4 rfl (by kernel_rfl) (fun K hK => ?_)
  go_simp
  (refine (DV.out _).mono ?_; rintro e w7 ⟨rfl, hb7⟩)
  (try dsimp only)
  (try simp only [Act.put, List.setIfInBounds_toArray, List.set_cons_zero, List.set_cons_succ])
  clear hHeld
  refine hK.out _ _ ?_ (fun hHeld => ?_)
  · exact ⟨(hb7.cell z6).trans d0, (hb7.cell z6).trans d1, (hb7.cell z6).trans d2⟩
  clear hK K
  (try simp only [Act.put, List.setIfInBounds_toArray, List.set_cons_zero, List.set_cons_succ])
  refine wpAnyM_oneS 5 rfl (by kernel_rfl) (fun K hK => ?_)
  go_simp
  (refine (rend2_any c _ (dvM P Z) n _ ((hb7.cell (by (try simp); omega)).trans (by simpa using k1)) ((hb7.frozen (by (try simp); omega)).trans (by simpa using k2))).mono ?_; rintro e w8 ⟨rfl, hu8⟩)
  (try dsimp only)
  (try simp only [Act.put, List.setIfInBounds_toArray, List.set_cons_zero, List.set_cons_succ])
  clear hHeld
  refine hK.out _ _ ?_ (fun hHeld => ?_)
  · have z7 : pb < w7.heap.size := Nat.lt_of_lt_of_le z6 hb7.size; exact ⟨(hu8.cell z7 (nc 0)).trans ((hb7.cell z6).trans d0), (hu8.cell z7 (nc 1)).trans ((hb7.cell z6).trans d1), (hu8.cell z7 (nc 2)).trans ((hb7.cell z6).trans d2)⟩
  clear hK K
  (try simp only [Act.put, List.setIfInBounds_toArray, List.set_cons_zero, List.set_cons_succ])
  refine wpAnyM_one 6 rfl (by kernel_rfl) (fun K hK => ?_)
  go_simp
  refine hK.out _ _ (.inl (by kernel_rfl)) (fun _ => ?_)
  clear hK K
  (try simp only [Act.put, List.setIfInBounds_toArray, List.set_cons_zero, List.set_cons_succ])
  refine wpAnyM_done (by kernel_rfl) ?_ _
  go_wp2_with fail
  go_ret
  refine ⟨rfl, ?_⟩
  exact ((HW.out.trans (Upd.after HB3.out (Upd.after B3.out U5.out))).then' B6.out).trans (Upd.after (Below.drew (Below.refl _ _)) (Upd.after hb7 hu8))
set_option maxHeartbeats 4000000 in
theorem rmd0 (c : Addr) (h : Bool) (a b d x y v : Int) (P : Nat) (m : Bool) (w : World) (hc : w.cell? c = some (.bool h)) (hf : w.frozen? c = false)
    (hx : satV a = x) (hy : satV b = y) (hz : satV d = 0) (hv : (if P = 0 then 0 else if m = true then -1152921504606846976 else 1152921504606846976) = v)
    (hm : ∀ w, Calls Try.prog 66 #[.int .i64 x, .int .i64 y] w fun e w' => e = .returned (.agg #[.int .u64 (hi64 (P : Int)), .int .u64 (lo64 (P : Int)), .bool m]) ∧ Below w.heap.size w w') :
    Calls Try.prog 49 #[.pointer (some c), .int .i64 a, .int .i64 b, .int .i64 d] w fun e w' => e = .returned (.int .i64 v) ∧ Upd c true w w' := by
  have hcb := World.block_lt_of_cell? w c hc
  have HM := Lib.hid hm
  have c1 : (w.setCell c (.bool (h || satH a))).cell? c = some (.bool (h || satH a)) := World.cell?_setCell_same _ _ _ hc
  have c2 : ((w.setCell c (.bool (h || satH a))).setCell c (.bool (h || satH a || satH b))).cell? c = some (.bool (h || satH a || satH b)) := World.cell?_setCell_same _ _ _ c1
  have C2 := Lib.hid c2
  clear c2 hm
  have hcase : (P = 0 ∧ (hi64 (P : Int) == 0) = true ∧ (lo64 (P : Int) == 0) = true) ∨ (P ≠ 0 ∧ (hi64 (P : Int) == 0) = false) ∨ (P ≠ 0 ∧ (hi64 (P : Int) == 0) = true ∧ (lo64 (P : Int) == 0) = false) := by
    simp only [beq_iff_eq, beq_eq_false_iff_ne, ne_eq]
    unfold hi64 lo64
    omega
  have HV := Lib.hid hv
  clear hv
  cases m
  · rcases hcase with ⟨g0, g1, g2⟩ | ⟨g0, g1⟩ | ⟨g0, g1, g2⟩
    all_goals
      have HG := Lib.hid g0
      clear g0
      go_enter Try.func49, Try.ntmps49
      go_wp2_with fail
      refine (rsat_any c h a _ hc hf).mono ?_; rintro e w' ⟨rfl, rfl⟩
      go_wp2_with fail
      refine (rsat_any c _ b _ c1 (by simp [hf])).mono ?_; rintro e w' ⟨rfl, rfl⟩
      have HW := Lib.hid (Upd.trans (Upd.set c (h || satH a) w) (Upd.set c (h || satH a || satH b) _))
      have F2 : ((w.setCell c (.bool (h || satH a))).setCell c (.bool (h || satH a || satH b))).frozen? c = false := by simp [hf]
      have Z2 := Upd.size HW.out
      obtain ⟨w2, hw2⟩ : ∃ w2, (w.setCell c (.bool (h || satH a))).setCell c (.bool (h || satH a || satH b)) = w2 := ⟨_, rfl⟩
      rw [hw2] at HW C2 F2 Z2 ⊢
      clear hw2 c1 hc hf
      go_wp2_with fail
      refine (HM.out _).mono ?_; rintro e w3 ⟨rfl, hb3⟩
      have k1 : w3.cell? c = some (.bool (h || satH a || satH b)) := (hb3.cell (by omega)).trans C2.out
      have k2 : w3.frozen? c = false := (hb3.frozen (by omega)).trans F2
      have hs3 := hb3.size
      have HB3 := Lib.hid hb3
      clear hb3 C2 F2
      have k3 : ∀ o, (w3.alloc o).cell? c = some (.bool (h || satH a || satH b)) := fun o => by rw [World.cell?_alloc_lt _ _ _ (by omega)]; exact k1
      have k4 : ∀ cs t, (w3.alloc (.cells cs t)).frozen? c = false := fun cs t => by rw [frozen?_alloc_cells]; exact k2
      have D3 := Lib.hid (Wid.new w3 (P : Int) false)
      have B3 : Hid (Below w3.heap.size w3 (w3.alloc (.cells #[.int .u64 (hi64 (P : Int)), .int .u64 (lo64 (P : Int)), .bool false] 103))) := Lib.hid (by (repeat (first | with_reducible exact Below.refl _ _ | with_reducible apply Below.drew | (with_reducible refine below_drewN ?_ _) | (with_reducible refine Below.alloc ?_ (by (try simp) <;> omega) _) | (with_reducible refine Below.setCell ?_ (by (try simp) <;> omega) _))))
      go_upto_region 2 with fail
      have k5 := k3 (.cells #[.int .u64 (hi64 (P : Int)), .int .u64 (lo64 (P : Int)), .bool false] 103)
      have k6 := k4 #[.int .u64 (hi64 (P : Int)), .int .u64 (lo64 (P : Int)), .bool false] 103
      clear k1 k2 k3 k4
      obtain ⟨pb, hpb⟩ : ∃ pb, w3.heap.size = pb := ⟨_, rfl⟩
      generalize w3.alloc (.cells #[.int .u64 (hi64 (P : Int)), .int .u64 (lo64 (P : Int)), .bool false] 103) = w4 at *
      rw [hpb] at D3 ⊢
      have hcp : c.block < pb := by omega
      have hnc : pb ≠ c.block := by omega
      go_upto_region 3 with (refine (rsat_any c _ d _ k5 k6).mono ?_; rintro e w' ⟨rfl, rfl⟩)
      have c5 : (w4.setCell c (.bool (h || satH a || satH b || satH d))).cell? c = some (.bool (h || satH a || satH b || satH d)) := World.cell?_setCell_same _ _ _ k5
      have f5 : (w4.setCell c (.bool (h || satH a || satH b || satH d))).frozen? c = false := by simp [k6]
      have c6 := Lib.hid (Upd.set c true (w4.setCell c (.bool (h || satH a || satH b || satH d))))
      have D5 := Lib.hid (D3.out.other (a := c) hnc (.bool (h || satH a || satH b || satH d)))
      have U5 := Lib.hid (Upd.set c (h || satH a || satH b || satH d) w4)
      have hs5 : w4.heap.size = (w4.setCell c (.bool (h || satH a || satH b || satH d))).heap.size := (setCell_size _ _ _).symm
      generalize w4.setCell c (.bool (h || satH a || satH b || satH d)) = w5 at *
      clear k5 k6 D3
      obtain ⟨⟨d0, d1, d2⟩, v0, v1, v2⟩ := D5.out.c
      have D7 := D5.out.other (a := c) hnc (.bool true)
      go_upto_region 5 with fail
      have c7 := c6.out
      clear D5 d0 d1 d2 v0 v1 v2 c6
      generalize w5.setCell c (.bool true) = w6 at *
      have C7 := Lib.hid c7
      obtain ⟨⟨d0, d1, d2⟩, v0, v1, v2⟩ := D7.c
      clear c7
      go_wp2_with fail
      go_ret
      refine ⟨retI ?_, ?_⟩
      · have := HV.out
        first | (rw [if_pos HG.out] at this; exact this) | (rw [if_neg HG.out] at this; simpa using this)
      · exact (HW.out.trans (Upd.after HB3.out (Upd.after B3.out U5.out))).trans C7.out
  · rcases hcase with ⟨g0, g1, g2⟩ | ⟨g0, g1⟩ | ⟨g0, g1, g2⟩
    all_goals
      have HG := Lib.hid g0
      clear g0
      go_enter Try.func49, Try.ntmps49
      go_wp2_with fail
      refine (rsat_any c h a _ hc hf).mono ?_; rintro e w' ⟨rfl, rfl⟩
      go_wp2_with fail
      refine (rsat_any c _ b _ c1 (by simp [hf])).mono ?_; rintro e w' ⟨rfl, rfl⟩
      have HW := Lib.hid (Upd.trans (Upd.set c (h || satH a) w) (Upd.set c (h || satH a || satH b) _))
      have F2 : ((w.setCell c (.bool (h || satH a))).setCell c (.bool (h || satH a || satH b))).frozen? c = false := by simp [hf]
      have Z2 := Upd.size HW.out
      obtain ⟨w2, hw2⟩ : ∃ w2, (w.setCell c (.bool (h || satH a))).setCell c (.bool (h || satH a || satH b)) = w2 := ⟨_, rfl⟩
      rw [hw2] at HW C2 F2 Z2 ⊢
      clear hw2 c1 hc hf
      go_wp2_with fail
      refine (HM.out _).mono ?_; rintro e w3 ⟨rfl, hb3⟩
      have k1 : w3.cell? c = some (.bool (h || satH a || satH b)) := (hb3.cell (by omega)).trans C2.out
      have k2 : w3.frozen? c = false := (hb3.frozen (by omega)).trans F2
      have hs3 := hb3.size
      have HB3 := Lib.hid hb3
      clear hb3 C2 F2
      have k3 : ∀ o, (w3.alloc o).cell? c = some (.bool (h || satH a || satH b)) := fun o => by rw [World.cell?_alloc_lt _ _ _ (by omega)]; exact k1
      have k4 : ∀ cs t, (w3.alloc (.cells cs t)).frozen? c = false := fun cs t => by rw [frozen?_alloc_cells]; exact k2
      have D3 := Lib.hid (Wid.new w3 (P : Int) true)
      have B3 : Hid (Below w3.heap.size w3 (w3.alloc (.cells #[.int .u64 (hi64 (P : Int)), .int .u64 (lo64 (P : Int)), .bool true] 103))) := Lib.hid (by (repeat (first | with_reducible exact Below.refl _ _ | with_reducible apply Below.drew | (with_reducible refine below_drewN ?_ _) | (with_reducible refine Below.alloc ?_ (by (try simp) <;> omega) _) | (with_reducible refine Below.setCell ?_ (by (try simp) <;> omega) _))))
      go_upto_region 2 with fail
      have k5 := k3 (.cells #[.int .u64 (hi64 (P : Int)), .int .u64 (lo64 (P : Int)), .bool true] 103)
      have k6 := k4 #[.int .u64 (hi64 (P : Int)), .int .u64 (lo64 (P : Int)), .bool true] 103
      clear k1 k2 k3 k4
      obtain ⟨pb, hpb⟩ : ∃ pb, w3.heap.size = pb := ⟨_, rfl⟩
      generalize w3.alloc (.cells #[.int .u64 (hi64 (P : Int)), .int .u64 (lo64 (P : Int)), .bool true] 103) = w4 at *
      rw [hpb] at D3 ⊢
      have hcp : c.block < pb := by omega
      have hnc : pb ≠ c.block := by omega
      go_upto_region 3 with (refine (rsat_any c _ d _ k5 k6).mono ?_; rintro e w' ⟨rfl, rfl⟩)
      have c5 : (w4.setCell c (.bool (h || satH a || satH b || satH d))).cell? c = some (.bool (h || satH a || satH b || satH d)) := World.cell?_setCell_same _ _ _ k5
      have f5 : (w4.setCell c (.bool (h || satH a || satH b || satH d))).frozen? c = false := by simp [k6]
      have c6 := Lib.hid (Upd.set c true (w4.setCell c (.bool (h || satH a || satH b || satH d))))
      have D5 := Lib.hid (D3.out.other (a := c) hnc (.bool (h || satH a || satH b || satH d)))
      have U5 := Lib.hid (Upd.set c (h || satH a || satH b || satH d) w4)
      have hs5 : w4.heap.size = (w4.setCell c (.bool (h || satH a || satH b || satH d))).heap.size := (setCell_size _ _ _).symm
      generalize w4.setCell c (.bool (h || satH a || satH b || satH d)) = w5 at *
      clear k5 k6 D3
      obtain ⟨⟨d0, d1, d2⟩, v0, v1, v2⟩ := D5.out.c
      have D7 := D5.out.other (a := c) hnc (.bool true)
      go_upto_region 5 with fail
      have c7 := c6.out
      clear D5 d0 d1 d2 v0 v1 v2 c6
      generalize w5.setCell c (.bool true) = w6 at *
      have C7 := Lib.hid c7
      obtain ⟨⟨d0, d1, d2⟩, v0, v1, v2⟩ := D7.c
      clear c7
      go_wp2_with fail
      go_ret
      refine ⟨retI ?_, ?_⟩
      · have := HV.out
        first | (rw [if_pos HG.out] at this; exact this) | (rw [if_neg HG.out] at this; simpa using this)
      · exact (HW.out.trans (Upd.after HB3.out (Upd.after B3.out U5.out))).trans C7.out
theorem rmd_any (c : Addr) (h : Bool) (a b d : Int) (w : World) (hc : w.cell? c = some (.bool h)) (hf : w.frozen? c = false) :
    Calls Try.prog 49 #[.pointer (some c), .int .i64 a, .int .i64 b, .int .i64 d] w fun e w' => e = .returned (.int .i64 (mdivV a b d)) ∧ Upd c (h || mdivH a b d) w w' := by
  have hp := abs_prod_bd a b
  have ba := satV_bd a
  have bb := satV_bd b
  obtain ⟨P, hP⟩ : ∃ P, (satV a).natAbs * (satV b).natAbs = P := ⟨_, rfl⟩
  have hs := sg2_mul _ _ P hP
  have hm : ∀ w, Calls Try.prog 66 #[.int .i64 (satV a), .int .i64 (satV b)] w fun e w' => e = .returned (.agg #[.int .u64 (hi64 (P : Int)), .int .u64 (lo64 (P : Int)), .bool (sg2 (satV a) (satV b))]) ∧ Below w.heap.size w w' := fun w => rmul_any _ _ _ w ba.1 ba.2 bb.1 bb.2 (by rw [← hP]; simp)
  have hPa : P = (satV a * satV b).natAbs := by rw [Int.natAbs_mul, hP]
  by_cases hz : satV d = 0
  · have e2 : (h || mdivH a b d) = true := by simp [mdivH, byH, hz]
    rw [e2]
    refine rmd0 c h a b d _ _ _ P (sg2 (satV a) (satV b)) w hc hf rfl rfl hz ?_ hm
    unfold mdivV byV
    rw [if_pos hz]
    generalize satV a * satV b = X at *
    generalize sg2 (satV a) (satV b) = g at *
    subst hPa
    by_cases h0 : X = 0
    · subst h0; rfl
    · have h1 : ¬ X.natAbs = 0 := by omega
      rw [if_neg h1, if_neg h0]
      cases g
      · unfold sv at hs; simp at hs
        rw [if_neg (by simp), if_neg (by omega)]
      · unfold sv at hs; simp at hs
        rw [if_pos rfl, if_pos (by omega)]
  · have k := rdiv_sg (satV a * satV b) (satV d) hz
    rw [← hPa] at k
    have hsg : ∀ N : Nat, sv (sg2 (satV a * satV b) (satV d)) (dvM P N) = sv (!(sg2 (satV a) (satV b)) == decide (satV d < 0)) (dvM P N) ∨ P = 0 := by
      intro N
      by_cases h0 : P = 0
      · exact .inr h0
      · refine .inl ?_
        congr 1
        rw [← sg2_ne]
        have : decide (satV a * satV b < 0) = sg2 (satV a) (satV b) := by
          cases hsg : sg2 (satV a) (satV b)
          · rw [hsg] at hs; unfold sv at hs; simp at hs
            simp; omega
          · rw [hsg] at hs; unfold sv at hs; simp at hs
            simp; omega
        rw [this]
    have k2 : rdiv (satV a * satV b) (satV d) = sv (!(sg2 (satV a) (satV b)) == decide (satV d < 0)) (dvM P (satV d).natAbs) := by
      rw [k]
      rcases hsg (satV d).natAbs with h1 | h1
      · exact h1
      · subst h1
        have : dvM 0 (satV d).natAbs = 0 := by unfold dvM; rw [Nat.zero_mod, Nat.zero_div, if_neg (by omega)]
        rw [this, sv_0, sv_0]
    have e1 : mdivV a b d = satV (sv (!(sg2 (satV a) (satV b)) == decide (satV d < 0)) (dvM P (satV d).natAbs)) := by
      rw [← k2]; unfold mdivV byV; rw [if_neg hz]
    have e2 : (h || mdivH a b d) = (h || satH a || satH b || satH d || satH (sv (!(sg2 (satV a) (satV b)) == decide (satV d < 0)) (dvM P (satV d).natAbs))) := by
      rw [← k2]; unfold mdivH byH
      rw [show decide (satV d = 0) = false by simpa using hz]
      simp only [Bool.false_or, Bool.or_assoc]
    rw [e1, e2]
    rw [hP] at hp
    exact rmdS c h a b d _ _ _ P _ _ _ _ w hc hf rfl rfl rfl rfl hp rfl rfl (by simpa using hz) hm
end Go.Proofs.Ytokcdlcmamdloaa
