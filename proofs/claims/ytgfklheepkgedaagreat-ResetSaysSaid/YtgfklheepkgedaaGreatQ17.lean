/- Contracts of the program's functions and plain laws, part 17: they hold for all arguments. -/
import Derived.Test.YtgfklheepkgedaaGreatQ16
import Derived.Test.YtgfklheepkgedaaGreatQ07
import Derived.Test.YtgfklheepkgedaaGreatQ04
/- Contracts of the reference's scalars (6): divided. -/
namespace Go.Proofs.YtgfklheepkgedaaGreat
open Go.RowKit
set_option maxRecDepth 100000
theorem Wid.set0 {w : World} {b : Nat} {M N : Int} {m : Bool} (h : Wid w b M m) (hl : lo64 M = lo64 N) : Wid (w.setCell ⟨b, 0, none⟩ (.int .u64 (hi64 N))) b N m := by
 have := heap_setCell_same w b 0 _ _ (.int .u64 (hi64 N)) h
 rw [hl] at this
 exact this
theorem Wid.set1 {w : World} {b : Nat} {M N : Int} {m : Bool} (h : Wid w b M m) (hl : hi64 M = hi64 N) : Wid (w.setCell ⟨b, 1, none⟩ (.int .u64 (lo64 N))) b N m := by
 have := heap_setCell_same w b 1 _ _ (.int .u64 (lo64 N)) h
 rw [hl] at this
 exact this
theorem and63 : ∀ j, j < 128 → bits .and .i64 ((j : Nat) : Int) 63 = ((j % 64 : Nat) : Int) := by decide +kernel
theorem pow_wrap (s : Nat) (hs : s < 64) : IntKind.u64.wrap ((2 : Int) ^ s) = 2 ^ s := by
 have h : 2 ^ s < 18446744073709551616 := by rw [show 18446744073709551616 = 2 ^ 64 from rfl]; exact Nat.pow_lt_pow_right (by decide) hs
 rw [show (2 : Int) ^ s = ((2 ^ s : Nat) : Int) by simp]
 generalize 2 ^ s = x at *
 rw [IntKind.wrap_u64]
 omega
/-- What a round of 'divided' keeps. -/
structure DvR (M Q : Nat) (m : Bool) (w wr : World) : Prop where
 below : Below w.heap.size w wr
 a : Wid wr w.heap.size M m
 q : Wid wr (w.heap.size + 1 + 1) Q m
 z : Wid wr (w.heap.size + 1) 0 false
set_option maxHeartbeats 8000000 in
theorem rdivided_any (M d : Nat) (m : Bool) (w : World) (hM : M < 340282366920938463463374607431768211456) (d0 : 0 < d) (d1 : d ≤ 1152921504606846976) :
  Calls Tryz.prog 122 #[.agg #[.int .u64 (hi64 (M : Int)), .int .u64 (lo64 (M : Int)), .bool m], .int .u64 (d : Int)] w fun e w' =>
   e = .returned (.agg #[.int .u64 (hi64 (dvM M d : Nat)), .int .u64 (lo64 (dvM M d : Nat)), .bool m]) ∧ Below w.heap.size w w' := by
 have HM := Lib.hid (And.intro hM (And.intro d0 d1))
 have R0 : Hid (DvR M (M / 2 ^ 128 / d * 2 ^ 128) m w (((w.alloc (.cells #[.int .u64 (hi64 (M : Int)), .int .u64 (lo64 (M : Int)), .bool m] 137)).alloc (.cells #[.int .u64 0, .int .u64 0, .bool false] 137)).alloc (.cells #[.int .u64 0, .int .u64 0, .bool m] 137))) := by
  refine Lib.hid ⟨by (repeat (first | with_reducible exact Below.refl _ _ | with_reducible apply Below.drew | (with_reducible refine below_drewN ?_ _) | (with_reducible refine Below.alloc ?_ (by (try simp) <;> omega) _) | (with_reducible refine Below.setCell ?_ (by (try simp) <;> omega) _))), ((Wid.new w (M : Int) m).alloc _).alloc _, ?_, ?_⟩
  ·have e : M / 2 ^ 128 = 0 := Nat.div_eq_of_lt hM
   rw [e, Nat.zero_div, Nat.zero_mul]
   have h := Wid.new ((w.alloc (.cells #[.int .u64 (hi64 (M : Int)), .int .u64 (lo64 (M : Int)), .bool m] 137)).alloc (.cells #[.int .u64 0, .int .u64 0, .bool false] 137)) 0 m
   rw [show hi64 0 = 0 by decide, show lo64 0 = 0 by decide] at h
   simpa using h
  ·have h := (Wid.new (w.alloc (.cells #[.int .u64 (hi64 (M : Int)), .int .u64 (lo64 (M : Int)), .bool m] 137)) 0 false).alloc (.cells #[.int .u64 0, .int .u64 0, .bool m] 137)
   rw [show hi64 0 = 0 by decide, show lo64 0 = 0 by decide] at h
   simpa using h
 have E0 : ((M / 2 ^ 128 % d : Nat) : Int) = 0 := by rw [Nat.div_eq_of_lt hM]; simp
 clear hM d0 d1
 go_enter Tryz.func122, Tryz.ntmps122
 go_upto_region 4 with fail
 generalize ((w.alloc (.cells #[.int .u64 (hi64 (M : Int)), .int .u64 (lo64 (M : Int)), .bool m] 137)).alloc (.cells #[.int .u64 0, .int .u64 0, .bool false] 137)).alloc (.cells #[.int .u64 0, .int .u64 0, .bool m] 137) = W0 at *
 go_wp2_with fail
 go_loopw [6, 7, 8] (fun v6 v7 v8 wr => ∃ (k : Nat) (i : Int), k ≤ 128 ∧ i = (k : Int) - 1 ∧ v7 = .int .i64 i ∧ v6 = .int .u64 ((M / 2 ^ k % d : Nat) : Int) ∧ Hid (DvR M (M / 2 ^ k / d * 2 ^ k) m w wr)) (fun _ v _ _ => (intOf v + 1).toNat)
 case atStart => exact ⟨128, 127, by omega, by omega, rfl, by rw [E0], R0⟩
 case round =>
  obtain ⟨k, i, hk, hi, rfl, rfl, R⟩ := hrel
  clear R0 E0
  cases k with
  | zero =>
   obtain rfl : i = -1 := by omega
   rw [Nat.pow_zero, Nat.div_one, Nat.mul_one] at R
   rw [Nat.pow_zero, Nat.div_one]
   obtain ⟨bw, ba, qa, zb⟩ := R.out
   obtain ⟨⟨u0, u1, u2⟩, v0, v1, v2⟩ := qa.c
   have rl := Nat.mod_lt M HM.out.2.1
   obtain ⟨r, hr⟩ : ∃ r, M % d = r := ⟨_, rfl⟩
   obtain ⟨q, hq⟩ : ∃ q, M / d = q := ⟨_, rfl⟩
   rw [hr] at rl ⊢
   rw [hq] at u0 u1 qa
   have hsz := qa.lt
   obtain ⟨⟨z0, z1, z2⟩, x0, x1, x2⟩ := zb.c
   rw [show hi64 0 = 0 by decide] at z0
   rw [show lo64 0 = 0 by decide] at z1
   have e1 : IntKind.u64.wrap ((d : Int) - (r : Int)) = ((d - r : Nat) : Int) := by have := HM.out.2; rw [IntKind.wrap_u64]; omega
   obtain ⟨u, hu⟩ : ∃ u, d - r = u := ⟨_, rfl⟩
   rw [hu] at e1
   have HD := Lib.hid (show dvM M d = if r ≥ u then q + 1 else q by unfold dvM; rw [hr, hq, hu])
   have hq2 : q + 1 < 340282366920938463463374607431768211456 ∨ d = 1 := by
    by_cases h1 : d = 1
    ·exact .inr h1
    ·have : q ≤ M / 2 := by rw [← hq]; exact Nat.div_le_div_left (by have := HM.out.2; omega) (by decide)
     have := HM.out.1
     omega
   have HQ2 := Lib.hid hq2
   have HM2 := Lib.hid HM.out.2
   clear hq hr hq2 HM hi
   by_cases hg : u ≤ r
   ·have g1 : decide (u ≤ r) = true := by simpa using hg
    have AD := Lib.hid (fun w => radd_any q 1 m m w (by have := HQ2.out; have := HM2.out; omega))
    rw [show adM m m q 1 = q + 1 from by unfold adM; simp, show adS m m q 1 = m from by unfold adS; simp] at AD
    rw [show hi64 ((1 : Nat) : Int) = 0 from by decide, show lo64 ((1 : Nat) : Int) = 1 from by decide] at AD
    rw [if_pos hg] at HD
    go_wp2_with fail
    refine (AD.out _).mono ?_; rintro e w1 ⟨rfl, hb1⟩
    have q1 := qa.below hb1
    have o1 := zb.below hb1
    have B1 := Lib.hid (bw.trans (hb1.mono bw.size))
    have hsz1 := q1.lt
    clear u0 u1 u2 v0 v1 v2 z0 z1 z2 x0 x1 x2 hsz R bw ba qa zb AD hb1
    obtain ⟨⟨u0, u1, u2⟩, v0, v1, v2⟩ := q1.c
    obtain ⟨⟨z0, z1, z2⟩, x0, x1, x2⟩ := o1.c
    rw [show hi64 0 = 0 by decide] at z0
    rw [show lo64 0 = 0 by decide] at z1
    go_wp2_with fail
    refine bodyPost_ret (v := .agg #[.int .u64 (hi64 ((q + 1 : Nat) : Int)), .int .u64 (lo64 ((q + 1 : Nat) : Int)), .bool m]) (by simp [results, Tryz.results122, go_sem, *]) rfl ⟨?_, ?_⟩
    ·rw [HD.out]
    ·have bw := B1.out
     (repeat (first | exact bw | (refine Below.setCell ?_ (by (try simp) <;> omega) _)))
   ·have g1 : decide (u ≤ r) = false := by simpa using hg
    rw [if_neg hg] at HD
    go_wp2_with fail
    refine bodyPost_ret (v := .agg #[.int .u64 (hi64 (q : Int)), .int .u64 (lo64 (q : Int)), .bool m]) (by simp [results, Tryz.results122, go_sem, *]) rfl ⟨?_, ?_⟩
    ·rw [HD.out]
    ·(repeat (first | exact bw | (refine Below.setCell ?_ (by (try simp) <;> omega) _)))
  | succ j =>
   obtain rfl : i = (j : Int) := by omega
   have g1 : decide (0 ≤ (j : Int)) = true := by simp
   obtain ⟨T, hT⟩ : ∃ T, M / 2 ^ j = T := ⟨_, rfl⟩
   obtain ⟨H, hH⟩ : ∃ H, M / 2 ^ (j + 1) = H := ⟨_, rfl⟩
   obtain ⟨r, hr⟩ : ∃ r, H % d = r := ⟨_, rfl⟩
   obtain ⟨q, hq⟩ : ∃ q, H / d = q := ⟨_, rfl⟩
   obtain ⟨b, hb⟩ : ∃ b, T % 2 = b := ⟨_, rfl⟩
   obtain ⟨b2, r1, y1, y2⟩ := dv_two T d b H r q HM.out.2.1 hb (by rw [← hT, ← half_pow, hH]) hr hq
   rw [hH, hq] at R
   rw [hH, hr]
   have W2 := Lib.hid HM.out.2
   have e2 : IntKind.u64.wrap ((r : Int) * 2) = (r : Int) * 2 := by have := W2.out; rw [IntKind.wrap_u64]; omega
   have e3 := or_one r b (by have := W2.out; omega) b2
   obtain ⟨t, ht⟩ : ∃ t, 2 * r + b = t := ⟨_, rfl⟩
   rw [ht] at e3 y1 y2
   have t2 : t < 2 * d := by omega
   have qb : q * 2 ^ (j + 1) ≤ M := by rw [← hq, ← hH]; exact Nat.le_trans (Nat.mul_le_mul_right _ (Nat.div_le_self _ _)) (Nat.div_mul_le_self _ _)
   obtain ⟨Q, hQ⟩ : ∃ Q, q * 2 ^ (j + 1) = Q := ⟨_, rfl⟩
   rw [hQ] at R qb
   have HQ := Lib.hid hQ
   clear hQ
   obtain ⟨bw, ba, qa, zb⟩ := R.out
   obtain ⟨⟨c0, c1, c2⟩, _⟩ := ba.c
   obtain ⟨⟨u0, u1, u2⟩, v0, v1, v2⟩ := qa.c
   obtain ⟨s, hs⟩ : ∃ s, j % 64 = s := ⟨_, rfl⟩
   have s64 : s < 64 := by omega
   have f1 : bits .and .i64 (j : Int) 63 = (s : Int) := by rw [and63 j (by omega), hs]
   have f2 : IntKind.u64.wrap (s : Int) = (s : Int) := by rw [IntKind.wrap_u64]; omega
   have f3 := bit_lo M s s64
   have f4 := bit_hi M s HM.out.1
   have f5 := pow_wrap s s64
   have f6 : min s 64 = s := by omega
   have E2 := Lib.hid e2
   have Y := Lib.hid (And.intro y1 y2)
   have QB := Lib.hid qb
   have HM1 := Lib.hid HM.out.1
   clear e2 y1 y2 qb hr hq HM hi
   obtain ⟨bl, hbl⟩ : ∃ x, M / 2 ^ s % 2 = x := ⟨_, rfl⟩
   obtain ⟨bh, hbh⟩ : ∃ x, M / 2 ^ (64 + s) % 2 = x := ⟨_, rfl⟩
   rw [hbl] at f3
   rw [hbh] at f4
   have e2 := E2.out
   by_cases h64 : 64 ≤ j
   ·have g2 : decide (64 ≤ (j : Int)) = true := by simp; omega
    have hj : j = 64 + s := by omega
    have HJ := Lib.hid hj
    obtain rfl : bh = b := by rw [← hbh, ← hb, ← hT, hj]
    clear hj hs hbl hbh hb
    by_cases hlt : t < d
    ·have g3 : decide (d ≤ t) = false := by simp; omega
     have e0 : Q = 2 * q * 2 ^ j := by rw [← HQ.out, Nat.pow_succ, Nat.mul_comm (2 ^ j) 2, ← Nat.mul_assoc, Nat.mul_comm q 2]
     go_wp2_with fail
     go_roundw
     case rel =>
      refine ⟨j, (j : Int) - 1, by omega, rfl, by go_num, ?_, ?_⟩
      ·rw [hT, (Y.out.1 hlt).1]
      ·rw [hT, (Y.out.1 hlt).2, ← e0]; exact R
     case measure => simp [intOf]
    ·have g3 : decide (d ≤ t) = true := by simp; omega
     obtain ⟨N, hN⟩ : ∃ N, (2 * q + 1) * 2 ^ j = N := ⟨_, rfl⟩
     have HN := Lib.hid hN
     have e4 : IntKind.u64.wrap ((t : Int) - (d : Int)) = ((t - d : Nat) : Int) := by have := W2.out; rw [IntKind.wrap_u64]; omega
     obtain ⟨u, hu⟩ : ∃ u, t - d = u := ⟨_, rfl⟩
     rw [hu] at e4
     obtain ⟨o1, o2⟩ := (show _ ∧ _ from by have := or_hi q s (by rw [← HJ.out, HQ.out]; have := QB.out; have := HM1.out; omega) s64; rw [← HJ.out, HQ.out] at this; exact this)
     rw [hN] at o1 o2
     clear hN
     go_wp2_with fail
     go_roundw
     case rel =>
      refine ⟨j, (j : Int) - 1, by omega, rfl, by go_num, ?_, ?_⟩
      ·rw [hT, (Y.out.2 hlt).1, hu]
      ·rw [hT, (Y.out.2 hlt).2, HN.out]
       exact Lib.hid ⟨bw.setCell (by simp; omega) _, ba.other (by simp; omega) _, qa.set0 o2, zb.other (by simp) _⟩
     case measure => simp [intOf]
   ·have g2 : decide (64 ≤ (j : Int)) = false := by simp; omega
    have hj : j = s := by omega
    have HJ := Lib.hid hj
    obtain rfl : bl = b := by rw [← hbl, ← hb, ← hT, hj]
    clear hj hs hbl hbh hb
    by_cases hlt : t < d
    ·have g3 : decide (d ≤ t) = false := by simp; omega
     have e0 : Q = 2 * q * 2 ^ j := by rw [← HQ.out, Nat.pow_succ, Nat.mul_comm (2 ^ j) 2, ← Nat.mul_assoc, Nat.mul_comm q 2]
     go_wp2_with fail
     go_roundw
     case rel =>
      refine ⟨j, (j : Int) - 1, by omega, rfl, by go_num, ?_, ?_⟩
      ·rw [hT, (Y.out.1 hlt).1]
      ·rw [hT, (Y.out.1 hlt).2, ← e0]; exact R
     case measure => simp [intOf]
    ·have g3 : decide (d ≤ t) = true := by simp; omega
     obtain ⟨N, hN⟩ : ∃ N, (2 * q + 1) * 2 ^ j = N := ⟨_, rfl⟩
     have HN := Lib.hid hN
     have e4 : IntKind.u64.wrap ((t : Int) - (d : Int)) = ((t - d : Nat) : Int) := by have := W2.out; rw [IntKind.wrap_u64]; omega
     obtain ⟨u, hu⟩ : ∃ u, t - d = u := ⟨_, rfl⟩
     rw [hu] at e4
     obtain ⟨o1, o2⟩ := (show _ ∧ _ from by have := or_lo q s (by rw [← HJ.out, HQ.out]; have := QB.out; have := HM1.out; omega) s64; rw [← HJ.out, HQ.out, show (2 : Int) ^ j = 2 ^ s by rw [HJ.out]] at this; exact this)
     rw [hN] at o1 o2
     clear hN
     go_wp2_with fail
     go_roundw
     case rel =>
      refine ⟨j, (j : Int) - 1, by omega, rfl, by go_num, ?_, ?_⟩
      ·rw [hT, (Y.out.2 hlt).1, hu]
      ·rw [hT, (Y.out.2 hlt).2, HN.out]
       exact Lib.hid ⟨bw.setCell (by simp; omega) _, ba.other (by simp; omega) _, qa.set1 o2, zb.other (by simp) _⟩
     case measure => simp [intOf]
end Go.Proofs.YtgfklheepkgedaaGreat
/- Contracts of the reference's Clamp, Sat. -/
namespace Go.Proofs.YtgfklheepkgedaaGreat
open Go.RowKit
set_option maxRecDepth 100000
theorem clamp1 {a lo hi : Int} (h : hi < lo ∨ a < lo) : clampV a lo hi = lo ∧ clampH a lo hi = true := by
 unfold clampV clampH
 rcases h with h | h <;> simp [h]
theorem clamp2 {a lo hi : Int} (h0 : ¬ hi < lo) (h1 : ¬ a < lo) (h : hi < a) : clampV a lo hi = hi ∧ clampH a lo hi = true := by
 simp [clampV, clampH, h0, h1, h]
theorem clamp3 {a lo hi : Int} (h0 : ¬ hi < lo) (h1 : ¬ a < lo) (h2 : ¬ hi < a) : clampV a lo hi = a ∧ clampH a lo hi = false := by
 simp [clampV, clampH, h0, h1, h2]
theorem rclamp_any (c : Addr) (h : Bool) (a lo hi : Int) (w : World) (hc : w.cell? c = some (.bool h)) (hf : w.frozen? c = false) :
  Calls Tryz.prog 58 #[.pointer (some c), .int .i64 a, .int .i64 lo, .int .i64 hi] w fun e w' =>
   e = .returned (.int .i64 (clampV a lo hi)) ∧ w.setCell c (.bool (h || clampH a lo hi)) = w' := by
 by_cases h1 : a < lo
 ·obtain ⟨e1, e2⟩ := clamp1 (hi := hi) (.inr h1)
  rw [e1, e2, Bool.or_true]
  have d1 : decide (a < lo) = true := by simpa using h1
  have d2 : (lo != a) = true := by simp; omega
  clear e1 e2 h1
  go_enter Tryz.func58, Tryz.ntmps58
  go_wp2_with fail
  go_ret
  exact ⟨rfl, rfl⟩
 have d1 : decide (a < lo) = false := by simpa using h1
 by_cases h0 : hi < lo
 ·obtain ⟨e1, e2⟩ := clamp1 (a := a) (.inl h0)
  rw [e1, e2, Bool.or_true]
  have d0 : decide (hi < lo) = true := by simpa using h0
  clear e1 e2 h0 h1
  by_cases h2 : lo = a
  ·subst h2
   have d2 : (lo != lo) = false := by simp
   go_enter Tryz.func58, Tryz.ntmps58
   go_wp2_with fail
   go_ret
   exact ⟨rfl, rfl⟩
  ·have d2 : (lo != a) = true := by simpa using h2
   clear h2
   go_enter Tryz.func58, Tryz.ntmps58
   go_wp2_with fail
   go_ret
   exact ⟨rfl, rfl⟩
 have d0 : decide (hi < lo) = false := by simpa using h0
 by_cases h2 : hi < a
 ·obtain ⟨e1, e2⟩ := clamp2 h0 h1 h2
  rw [e1, e2, Bool.or_true]
  have d2 : decide (hi < a) = true := by simpa using h2
  have d3 : (hi != a) = true := by simp; omega
  clear e1 e2 h0 h1 h2
  go_enter Tryz.func58, Tryz.ntmps58
  go_wp2_with fail
  go_ret
  exact ⟨rfl, rfl⟩
 ·obtain ⟨e1, e2⟩ := clamp3 h0 h1 h2
  rw [e1, e2, Bool.or_false, setCell_self w c _ hc]
  have d2 : decide (hi < a) = false := by simpa using h2
  have d3 : (a != a) = false := by simp
  clear e1 e2 h0 h1 h2
  go_enter Tryz.func58, Tryz.ntmps58
  go_wp2_with fail
  go_ret
  exact ⟨rfl, rfl⟩
theorem rsat_any (c : Addr) (h : Bool) (a : Int) (w : World) (hc : w.cell? c = some (.bool h)) (hf : w.frozen? c = false) :
  Calls Tryz.prog 76 #[.pointer (some c), .int .i64 a] w fun e w' => e = .returned (.int .i64 (satV a)) ∧ w.setCell c (.bool (h || satH a)) = w' := by
 go_enter Tryz.func76, Tryz.ntmps76
 go_wp2_with (go_at_call 58; refine (rclamp_any c h a _ _ _ hc hf).mono ?_; rintro e w' ⟨rfl, rfl⟩)
 go_ret
 exact ⟨rfl, rfl⟩
end Go.Proofs.YtgfklheepkgedaaGreat
/- Contracts of the reference's scalars (7): Add, Sub, Neg. -/
namespace Go.Proofs.YtgfklheepkgedaaGreat
open Go.RowKit
set_option maxRecDepth 100000
theorem rsub_any (c : Addr) (h : Bool) (a b : Int) (w : World) (hc : w.cell? c = some (.bool h)) (hf : w.frozen? c = false) :
  Calls Tryz.prog 74 #[.pointer (some c), .int .i64 a, .int .i64 b] w fun e w' =>
   e = .returned (.int .i64 (satV (satV a - satV b))) ∧ w.setCell c (.bool (h || satH a || satH b || satH (satV a - satV b))) = w' := by
 have ba := satV_bd a
 have bb := satV_bd b
 obtain ⟨x, hx⟩ : ∃ x, satV a = x := ⟨_, rfl⟩
 obtain ⟨y, hy⟩ : ∃ y, satV b = y := ⟨_, rfl⟩
 have c1 : (w.setCell c (.bool (h || satH a))).cell? c = some (.bool (h || satH a)) := World.cell?_setCell_same _ _ _ hc
 have c2 : ((w.setCell c (.bool (h || satH a))).setCell c (.bool (h || satH a || satH b))).cell? c = some (.bool (h || satH a || satH b)) := World.cell?_setCell_same _ _ _ c1
 have f1 : ∀ v, (w.setCell c v).frozen? c = false := fun v => by simp [hf]
 go_enter Tryz.func74, Tryz.ntmps74
 go_wp2_with fail
 refine (rsat_any c h a _ hc hf).mono ?_; rintro e w' ⟨rfl, rfl⟩
 go_wp2_with fail
 refine (rsat_any c _ b _ c1 (f1 _)).mono ?_; rintro e w' ⟨rfl, rfl⟩
 go_wp2_with fail
 obtain ⟨z, hz⟩ : ∃ z, satV (x - y) = z := ⟨_, rfl⟩
 refine (rsat_any c _ (x - y) _ c2 (by simp [hf])).mono ?_; rintro e w' ⟨rfl, rfl⟩
 go_wp2_with fail
 go_ret
 rw [hx, hy, hz]
 exact ⟨rfl, by simp only [setCell_setCell]⟩
theorem rplus_any (c : Addr) (h : Bool) (a b : Int) (w : World) (hc : w.cell? c = some (.bool h)) (hf : w.frozen? c = false) :
  Calls Tryz.prog 92 #[.pointer (some c), .int .i64 a, .int .i64 b] w fun e w' =>
   e = .returned (.int .i64 (satV (satV a + satV b))) ∧ w.setCell c (.bool (h || satH a || satH b || satH (satV a + satV b))) = w' := by
 have ba := satV_bd a
 have bb := satV_bd b
 obtain ⟨x, hx⟩ : ∃ x, satV a = x := ⟨_, rfl⟩
 obtain ⟨y, hy⟩ : ∃ y, satV b = y := ⟨_, rfl⟩
 have c1 : (w.setCell c (.bool (h || satH a))).cell? c = some (.bool (h || satH a)) := World.cell?_setCell_same _ _ _ hc
 have c2 : ((w.setCell c (.bool (h || satH a))).setCell c (.bool (h || satH a || satH b))).cell? c = some (.bool (h || satH a || satH b)) := World.cell?_setCell_same _ _ _ c1
 have f1 : ∀ v, (w.setCell c v).frozen? c = false := fun v => by simp [hf]
 go_enter Tryz.func92, Tryz.ntmps92
 go_wp2_with fail
 refine (rsat_any c h a _ hc hf).mono ?_; rintro e w' ⟨rfl, rfl⟩
 go_wp2_with fail
 refine (rsat_any c _ b _ c1 (f1 _)).mono ?_; rintro e w' ⟨rfl, rfl⟩
 go_wp2_with fail
 obtain ⟨z, hz⟩ : ∃ z, satV (x + y) = z := ⟨_, rfl⟩
 refine (rsat_any c _ (x + y) _ c2 (by simp [hf])).mono ?_; rintro e w' ⟨rfl, rfl⟩
 go_wp2_with fail
 go_ret
 rw [hx, hy, hz]
 exact ⟨rfl, by simp only [setCell_setCell]⟩
end Go.Proofs.YtgfklheepkgedaaGreat
/- Contracts of the reference's scalars (8): Mul by 2^30 and 2^44, M. -/
namespace Go.Proofs.YtgfklheepkgedaaGreat
open Go.RowKit
set_option maxRecDepth 100000
theorem sg2_mul (x y : Int) (P : Nat) (hP : x.natAbs * y.natAbs = P) : sv (sg2 x y) P = x * y := by
 subst hP
 unfold sv sg2
 have hx := Int.natAbs_mul x y
 by_cases h1 : x < 0 <;> by_cases h2 : y < 0
 ·simp only [if_pos h1, if_pos h2, Bool.false_eq_true, if_false]
  rw [← hx]; have := Int.mul_pos_of_neg_of_neg h1 h2; omega
 ·simp only [if_pos h1, if_neg h2, if_true]
  rw [← hx]; have := Int.mul_nonpos_of_nonpos_of_nonneg (Int.le_of_lt h1) (Int.not_lt.mp h2); omega
 ·simp only [if_neg h1, if_pos h2, if_true]
  rw [← hx]; have := Int.mul_nonpos_of_nonneg_of_nonpos (Int.not_lt.mp h1) (Int.le_of_lt h2); omega
 ·simp only [if_neg h1, if_neg h2, Bool.false_eq_true, if_false]
  rw [← hx]; have := Int.mul_nonneg (Int.not_lt.mp h1) (Int.not_lt.mp h2); omega
theorem abs_prod_bd (a b : Int) : (satV a).natAbs * (satV b).natAbs ≤ 1329227995784915872903807060280344576 := by
 have ha := satV_bd a
 have hb := satV_bd b
 exact Nat.le_trans (Nat.mul_le_mul (show (satV a).natAbs ≤ 1152921504606846976 by omega) (show (satV b).natAbs ≤ 1152921504606846976 by omega)) (by decide)
set_option maxHeartbeats 1000000 in
theorem rmulS (c : Addr) (h : Bool) (a b s x y : Int) (P N : Nat) (m : Bool) (w : World) (hc : w.cell? c = some (.bool h)) (hf : w.frozen? c = false)
  (hx : satV a = x) (hy : satV b = y)
  (hm : ∀ w, Calls Tryz.prog 94 #[.int .i64 x, .int .i64 y] w fun e w' => e = .returned (.agg #[.int .u64 (hi64 (P : Int)), .int .u64 (lo64 (P : Int)), .bool m]) ∧ Below w.heap.size w w')
  (hs : ∀ w, Calls Tryz.prog 98 #[.agg #[.int .u64 (hi64 (P : Int)), .int .u64 (lo64 (P : Int)), .bool m], .int .i64 s] w fun e w' =>
   e = .returned (.agg #[.int .u64 (hi64 (N : Int)), .int .u64 (lo64 (N : Int)), .bool m]) ∧ Below w.heap.size w w') :
  Calls Tryz.prog 91 #[.pointer (some c), .int .i64 a, .int .i64 b, .int .i64 s] w fun e w' => e = .returned (.int .i64 (satV (sv m N))) ∧ Upd c (h || satH a || satH b || satH (sv m N)) w w' := by
 have hcb := World.block_lt_of_cell? w c hc
 have c1 : (w.setCell c (.bool (h || satH a))).cell? c = some (.bool (h || satH a)) := World.cell?_setCell_same _ _ _ hc
 have c2 : ((w.setCell c (.bool (h || satH a))).setCell c (.bool (h || satH a || satH b))).cell? c = some (.bool (h || satH a || satH b)) := World.cell?_setCell_same _ _ _ c1
 have HM := Lib.hid hm
 have HR := Lib.hid hs
 have C2 := Lib.hid c2
 clear hm hs c2
 go_enter Tryz.func91, Tryz.ntmps91
 go_wp2_with fail
 refine (rsat_any c h a _ hc hf).mono ?_; rintro e w' ⟨rfl, rfl⟩
 go_wp2_with fail
 refine (rsat_any c _ b _ c1 (by simp [hf])).mono ?_; rintro e w' ⟨rfl, rfl⟩
 have HW := Lib.hid (Upd.trans (Upd.set c (h || satH a) w) (Upd.set c (h || satH a || satH b) _))
 have F2 : ((w.setCell c (.bool (h || satH a))).setCell c (.bool (h || satH a || satH b))).frozen? c = false := by simp [hf]
 have Z2 := Upd.size HW.out
 obtain ⟨w2, hw2⟩ : ∃ w2, (w.setCell c (.bool (h || satH a))).setCell c (.bool (h || satH a || satH b)) = w2 := ⟨_, rfl⟩
 rw [hw2] at HW C2 F2 Z2 ⊢
 clear hw2 c1 hc hf
 go_wp2_with fail
 refine (HM.out _).mono ?_; rintro e w3 ⟨rfl, hb3⟩
 have k1 : w3.cell? c = some (.bool (h || satH a || satH b)) := (hb3.cell (by omega)).trans C2.out
 have k2 : w3.frozen? c = false := (hb3.frozen (by omega)).trans F2
 have hz := hb3.size
 have HB3 := Lib.hid hb3
 clear hb3 C2 F2
 go_wp2_with fail
 refine (HR.out _).mono ?_; rintro e w4 ⟨rfl, hb4⟩
 have k3 : w4.cell? c = some (.bool (h || satH a || satH b)) := (hb4.cell (by omega)).trans k1
 have k4 : w4.frozen? c = false := (hb4.frozen (by omega)).trans k2
 have HB4 := Lib.hid hb4
 clear hb4 k1 k2
 go_wp2_with fail
 refine (rend2_any c _ N m _ k3 k4).mono ?_; rintro e w5 ⟨rfl, hu5⟩
 go_wp2_with fail
 go_ret
 exact ⟨rfl, HW.out.trans (Upd.after HB3.out (Upd.after HB4.out hu5))⟩
theorem rmul30_any (c : Addr) (h : Bool) (a b : Int) (w : World) (hc : w.cell? c = some (.bool h)) (hf : w.frozen? c = false) :
  Calls Tryz.prog 91 #[.pointer (some c), .int .i64 a, .int .i64 b, .int .i64 30] w fun e w' => e = .returned (.int .i64 (mulV a b 30)) ∧ Upd c (h || mulH a b 30) w w' := by
 have hp := abs_prod_bd a b
 have ba := satV_bd a
 have bb := satV_bd b
 obtain ⟨P, hP⟩ : ∃ P, (satV a).natAbs * (satV b).natAbs = P := ⟨_, rfl⟩
 have e1 : mulV a b 30 = satV (sv (sg2 (satV a) (satV b)) (shM P 30)) := by rw [← rsh_sv, sg2_mul _ _ P hP]; simp [mulV]
 have e2 : (h || mulH a b 30) = (h || satH a || satH b || satH (sv (sg2 (satV a) (satV b)) (shM P 30))) := by rw [← rsh_sv, sg2_mul _ _ P hP]; simp [mulH, Bool.or_assoc]
 rw [e1, e2]
 rw [hP] at hp
 exact rmulS c h a b 30 _ _ P _ _ w hc hf rfl rfl (fun w => rmul_any _ _ _ w ba.1 ba.2 bb.1 bb.2 (by rw [← hP]; simp)) (fun w => rshift30_any P _ w (by omega))
theorem rm_any (c : Addr) (h : Bool) (a b : Int) (w : World) (hc : w.cell? c = some (.bool h)) (hf : w.frozen? c = false) :
  Calls Tryz.prog 61 #[.pointer (some c), .int .i64 a, .int .i64 b] w fun e w' => e = .returned (.int .i64 (mulV a b 30)) ∧ Upd c (h || mulH a b 30) w w' := by
 go_enter Tryz.func61, Tryz.ntmps61
 go_wp2_with fail
 refine (rmul30_any c h a b _ hc hf).mono ?_; rintro e w1 ⟨rfl, hu⟩
 go_wp2_with fail
 go_ret
 exact ⟨rfl, hu⟩
end Go.Proofs.YtgfklheepkgedaaGreat
/- The reference's angles: Wrap, Sin, Cos. -/
namespace Go.Proofs.YtgfklheepkgedaaGreat
open Go.RowKit
set_option maxRecDepth 100000
theorem rwrap_any (a : Int) (w : World) : Calls Tryz.prog 62 #[.int .i64 a] w fun e w' => e = .returned (.int .i64 (wrpV a)) ∧ w = w' := by
 have b := tmod_bd a
 have e0 : IntKind.i64.wrap (a.tmod 6746518852) = a.tmod 6746518852 := IntWalk.i64_in _ (by omega)
 have EV := Lib.hid (show wrpV a = if 3373259426 < a.tmod 6746518852 then a.tmod 6746518852 - 6746518852 else if a.tmod 6746518852 ≤ -3373259426 then a.tmod 6746518852 + 6746518852 else a.tmod 6746518852 from rfl)
 obtain ⟨V, hV⟩ : ∃ x, wrpV a = x := ⟨_, rfl⟩
 rw [hV] at EV ⊢
 clear hV
 obtain ⟨r, hr⟩ : ∃ x, a.tmod 6746518852 = x := ⟨_, rfl⟩
 rw [hr] at b e0 EV
 by_cases h1 : 3373259426 < r
 ·have d1 : decide (3373259426 < r) = true := by simpa using h1
  have EE := Lib.hid (show V = r - 6746518852 by rw [EV.out, if_pos h1])
  have e1 : IntKind.i64.wrap (r - 6746518852) = r - 6746518852 := IntWalk.i64_in _ (by omega)
  have d3 : decide (r - 6746518852 ≤ -3373259426) = false := by simp; omega
  clear EV h1 b
  go_enter Tryz.func62, Tryz.ntmps62
  go_upto_region 2 with fail
  (try simp only [hr, e0])
  go_wp2_with fail
  go_ret
  exact ⟨by rw [EE.out]; rfl, rfl⟩
 ·have d1 : decide (3373259426 < r) = false := by simpa using h1
  by_cases h2 : r ≤ -3373259426
  ·have d2 : decide (r ≤ -3373259426) = true := by simpa using h2
   have EE := Lib.hid (show V = r + 6746518852 by rw [EV.out, if_neg h1, if_pos h2])
   have e1 : IntKind.i64.wrap (r + 6746518852) = r + 6746518852 := IntWalk.i64_in _ (by omega)
   clear EV h1 h2 b
   go_enter Tryz.func62, Tryz.ntmps62
   go_upto_region 2 with fail
   (try simp only [hr, e0])
   go_wp2_with fail
   go_ret
   exact ⟨by rw [EE.out]; rfl, rfl⟩
  ·have d2 : decide (r ≤ -3373259426) = false := by simpa using h2
   have EE := Lib.hid (show V = r by rw [EV.out, if_neg h1, if_neg h2])
   clear EV h1 h2 b
   go_enter Tryz.func62, Tryz.ntmps62
   go_upto_region 2 with fail
   (try simp only [hr, e0])
   go_wp2_with fail
   go_ret
   exact ⟨by rw [EE.out]; rfl, rfl⟩
theorem oneC_clamp (s : Int) : clampV s (-1073741824) 1073741824 = oneC s := by
 unfold clampV oneC
 rw [if_neg (by decide)]
 by_cases h1 : s < -1073741824
 ·rw [if_pos h1]; omega
 ·rw [if_neg h1]
  by_cases h2 : 1073741824 < s
  ·rw [if_pos h2]; omega
  ·rw [if_neg h2]; omega
end Go.Proofs.YtgfklheepkgedaaGreat
/- The reference's sines and cosines tell the program's numbers. -/
namespace Go.Proofs.YtgfklheepkgedaaGreat
open Go.RowKit
set_option maxRecDepth 100000
theorem rsat_upd (c : Addr) (h : Bool) (a : Int) (w : World) (hc : w.cell? c = some (.bool h)) (hf : w.frozen? c = false) :
  Calls Tryz.prog 76 #[.pointer (some c), .int .i64 a] w fun e w' => e = .returned (.int .i64 (satV a)) ∧ Upd c (h || satH a) w w' :=
 (rsat_any c h a w hc hf).mono fun _ _ ⟨e, k⟩ => ⟨e, by rw [← k]; exact Upd.set c _ _⟩
theorem rplus_upd (c : Addr) (h : Bool) (a b : Int) (w : World) (hc : w.cell? c = some (.bool h)) (hf : w.frozen? c = false) :
  Calls Tryz.prog 92 #[.pointer (some c), .int .i64 a, .int .i64 b] w fun e w' => e = .returned (.int .i64 (addV a b)) ∧ Upd c (h || addH a b) w w' :=
 (rplus_any c h a b w hc hf).mono fun _ _ ⟨e, k⟩ => ⟨e, by rw [← k, show (h || satH a || satH b || satH (satV a + satV b)) = (h || addH a b) by unfold addH; simp [Bool.or_assoc]]; exact Upd.set c _ _⟩
/-- The flag, the quiet one, a list of coefficients. -/
structure RsnR (c : Addr) (h : Bool) (qb : Nat) (w wr : World) : Prop where
 upd : Upd c h w wr
 cell : wr.cell? c = some (.bool h)
 free : wr.frozen? c = false
 q : wr.cell? ⟨qb, 0, none⟩ = some (.bool false)
 qf : wr.frozen? ⟨qb, 0, none⟩ = false
 cb : c.block < w.heap.size
 lt : w.heap.size ≤ qb
theorem RsnR.qlt {c : Addr} {h : Bool} {qb : Nat} {w wr : World} (s : RsnR c h qb w wr) : qb < wr.heap.size := World.block_lt_of_cell? wr ⟨qb, 0, none⟩ s.q
theorem RsnR.upd' {c : Addr} {h h' : Bool} {qb : Nat} {w wr w' : World} (s : RsnR c h qb w wr) (u : Upd c h' wr w') : RsnR c h' qb w w' := by
 have := s.cb
 have := s.lt
 have hq := s.qlt
 have hne : c ≠ ⟨qb, 0, none⟩ := fun e => by have := congrArg Addr.block e; simp only at this; omega
 exact ⟨s.upd.trans u, u.cellc s.cell, (u.frozen (World.block_lt_of_cell? _ _ s.cell)).trans s.free, (u.cell hq hne).trans s.q, (u.frozen hq).trans s.qf, s.cb, s.lt⟩
theorem RsnR.down {c : Addr} {h : Bool} {qb : Nat} {w wr w' : World} (s : RsnR c h qb w wr) (u : Below wr.heap.size wr w') : RsnR c h qb w w' :=
 ⟨s.upd.then u, (u.cell (World.block_lt_of_cell? _ _ s.cell)).trans s.cell, (u.frozen (World.block_lt_of_cell? _ _ s.cell)).trans s.free, (u.cell s.qlt).trans s.q, (u.frozen s.qlt).trans s.qf, s.cb, s.lt⟩
theorem rsn_start {c : Addr} {h h0 : Bool} {w w1 : World} (hc : w.cell? c = some (.bool h0)) (hcc : w1.cell? c = some (.bool h)) (hff : w1.frozen? c = false) (u : Upd c h w w1) : RsnR c h w1.heap.size w (w1.alloc (.cells #[.bool false] 36)) := by
 have hb := World.block_lt_of_cell? w c hc
 have hz := u.size
 have b : Below w1.heap.size w1 (w1.alloc (.cells #[.bool false] 36)) := (Below.refl _ _).alloc (Nat.le_refl _) _
 exact ⟨u.then b, (b.cell (World.block_lt_of_cell? _ _ hcc)).trans hcc, (b.frozen (World.block_lt_of_cell? _ _ hcc)).trans hff, by simp [go_sem], by simp [go_sem], hb, hz⟩
theorem rsn_lst {c : Addr} {h : Bool} {qb : Nat} {w wr : World} (s : RsnR c h qb w wr) :
  RsnR c h qb w (wr.alloc (.cells #[.int .i64 (-296), .int .i64 26631, .int .i64 (-1491308), .int .i64 44739243, .int .i64 (-536870912), .int .i64 1073741824] 2)) ∧
  (∀ i, i < 6 → (wr.alloc (.cells #[.int .i64 (-296), .int .i64 26631, .int .i64 (-1491308), .int .i64 44739243, .int .i64 (-536870912), .int .i64 1073741824] 2)).cell? ⟨wr.heap.size, i, none⟩ = some (.int .i64 (cosL (i + 1)))) ∧ qb < wr.heap.size := by
 refine ⟨s.down ((Below.refl _ _).alloc (Nat.le_refl _) _), fun i hi => ?_, s.qlt⟩
 obtain rfl | rfl | rfl | rfl | rfl | rfl : i = 0 ∨ i = 1 ∨ i = 2 ∨ i = 3 ∨ i = 4 ∨ i = 5 := by omega
 all_goals simp [go_sem, cosL]
theorem rsn_lst5 {c : Addr} {h : Bool} {qb : Nat} {w wr : World} (s : RsnR c h qb w wr) :
  RsnR c h qb w (wr.alloc (.cells #[.int .i64 2959, .int .i64 (-213044), .int .i64 8947849, .int .i64 (-178956971), .int .i64 1073741824] 2)) ∧
  (∀ i, i < 5 → (wr.alloc (.cells #[.int .i64 2959, .int .i64 (-213044), .int .i64 8947849, .int .i64 (-178956971), .int .i64 1073741824] 2)).cell? ⟨wr.heap.size, i, none⟩ = some (.int .i64 (sinL (i + 1)))) ∧ qb < wr.heap.size := by
 refine ⟨s.down ((Below.refl _ _).alloc (Nat.le_refl _) _), fun i hi => ?_, s.qlt⟩
 obtain rfl | rfl | rfl | rfl | rfl : i = 0 ∨ i = 1 ∨ i = 2 ∨ i = 3 ∨ i = 4 := by omega
 all_goals simp [go_sem, sinL]
/-- .. and the coefficients. -/
def RslR (c : Addr) (h : Bool) (qb lb n : Nat) (L : Nat → Int) (w wr : World) : Prop := RsnR c h qb w wr ∧ (∀ i, i < n → wr.cell? ⟨lb, i, none⟩ = some (.int .i64 (L (i + 1)))) ∧ qb < lb
theorem RslR.down {c : Addr} {h : Bool} {qb lb n : Nat} {L : Nat → Int} {w wr w' : World} (s : RslR c h qb lb n L w wr) (u : Below wr.heap.size wr w') : RslR c h qb lb n L w w' :=
 ⟨s.1.down u, fun i hi => (u.cell (World.block_lt_of_cell? wr ⟨lb, i, none⟩ (s.2.1 i hi))).trans (s.2.1 i hi), s.2.2⟩
theorem RslR.upd' {c : Addr} {h h' : Bool} {qb lb n : Nat} {L : Nat → Int} {w wr w' : World} (s : RslR c h qb lb n L w wr) (u : Upd c h' wr w') : RslR c h' qb lb n L w w' := by
 have a := s.1.cb
 have b := s.1.lt
 have d := s.2.2
 exact ⟨s.1.upd' u, fun i hi => (u.cell (World.block_lt_of_cell? wr ⟨lb, i, none⟩ (s.2.1 i hi)) (fun e => by have := congrArg Addr.block e; simp only at this; omega)).trans (s.2.1 i hi), s.2.2⟩
set_option maxHeartbeats 16000000 in
theorem rsin_any (c : Addr) (h : Bool) (a : Int) (w : World) (hc : w.cell? c = some (.bool h)) (hf : w.frozen? c = false) :
  Calls Tryz.prog 64 #[.pointer (some c), .int .i64 a] w fun e w' => e = .returned (.int .i64 (sinV a)) ∧ Upd c (h || sinH a) w w' := by
 have EV := Lib.hid (show sinV a = oneC (qrtV (fldV (wrpV (satV a)))) ∧ (h || sinH a) = (h || satH a || qrtH (fldV (wrpV (satV a)))) by
  unfold sinV sinH; exact ⟨rfl, by simp [Bool.or_assoc]⟩)
 obtain ⟨A, hA⟩ : ∃ x, satV a = x := ⟨_, rfl⟩
 obtain ⟨r, hr⟩ : ∃ x, wrpV A = x := ⟨_, rfl⟩
 obtain ⟨W, hW⟩ : ∃ x, fldV r = x := ⟨_, rfl⟩
 obtain ⟨H1, hH1⟩ : ∃ x, (h || satH a) = x := ⟨_, rfl⟩
 have br := wrpV_bd A
 rw [hr] at br
 have bW := fldV_bd br.1 br.2
 rw [hW] at bW
 have hW2 := hW
 unfold fldV at hW2
 rw [hA, hr, hW, hH1] at EV
 have SC := rsat_upd c h a w hc hf
 rw [hA, hH1] at SC
 have SC := Lib.hid SC
 have HC := Lib.hid hc
 have HF := Lib.hid hf
 have WC := Lib.hid (fun (x : World) => rwrap_any A x)
 rw [hr] at WC
 have cs : (decide (1686629713 < r) = true ∧ IntKind.i64.wrap (3373259426 - r) = W) ∨ (decide (1686629713 < r) = false ∧ decide (r < -1686629713) = true ∧ IntKind.i64.wrap (-3373259426 - r) = W) ∨ (decide (1686629713 < r) = false ∧ decide (r < -1686629713) = false ∧ W = r) := by
  by_cases h1 : 1686629713 < r
  ·rw [if_pos h1] at hW2
   exact .inl ⟨by simpa using h1, by rw [hW2]; exact IntWalk.i64_in _ (by omega)⟩
  ·rw [if_neg h1] at hW2
   by_cases h2 : r < -1686629713
   ·rw [if_pos h2] at hW2
    exact .inr (.inl ⟨by simpa using h1, by simpa using h2, by rw [hW2]; exact IntWalk.i64_in _ (by omega)⟩)
   ·rw [if_neg h2] at hW2
    exact .inr (.inr ⟨by simpa using h1, by simpa using h2, hW2.symm⟩)
 have QE := Lib.hid (show qrtV W = (if absV W ≤ 843314857 then sn1V W else if W < 0 then -cs1V (1686629713 - absV W) else cs1V (1686629713 - absV W)) ∧ qrtH W = (if absV W ≤ 843314857 then sn1H W else cs1H (1686629713 - absV W)) from ⟨rfl, rfl⟩)
 have hX : absV W = if W < 0 then -W else W := by unfold absV; rw [if_neg (by omega)]
 have cw : (decide (W < 0) = true ∧ IntKind.i64.wrap (-W) = absV W) ∨ (decide (W < 0) = false ∧ absV W = W) := by
  by_cases h1 : W < 0
  ·rw [if_pos h1] at hX
   exact .inl ⟨by simpa using h1, by rw [hX]; exact IntWalk.i64_in _ (by omega)⟩
  ·rw [if_neg h1] at hX
   exact .inr ⟨by simpa using h1, hX⟩
 clear hA hr hW hW2 hH1 br hc hf
 go_enter Tryz.func64, Tryz.ntmps64
 go_upto_region 2 with (first | (go_at_call 76; (refine SC.out.mono ?_); rintro e w1 ⟨rfl, hu1⟩; have U1 := Lib.hid hu1; clear hu1 SC) | (go_at_call 62; (refine (WC.out _).mono ?_); rintro e w2 ⟨rfl, rfl⟩))
 have R0 := Lib.hid (rsn_start HC.out (U1.out.cellc HC.out) ((U1.out.frozen (World.block_lt_of_cell? _ _ HC.out)).trans HF.out) U1.out)
 clear U1
 obtain ⟨X, hX⟩ : ∃ x, absV W = x := ⟨_, rfl⟩
 rw [hX] at cw QE
 have bX : 0 ≤ X ∧ X ≤ 1686629713 := by
  rw [← hX]; unfold absV; rw [if_neg (by omega)]; split <;> omega
 obtain ⟨Y, hY⟩ : ∃ x, 1686629713 - X = x := ⟨_, rfl⟩
 have eY : IntKind.i64.wrap (1686629713 - X) = Y := by rw [← hY]; exact IntWalk.i64_in _ (by omega)
 rw [hY] at QE
 clear hX hY
 by_cases hx : X ≤ 843314857
 ·have dx : decide (843314857 < X) = false := by simp; omega
  have QV := Lib.hid (show qrtV W = mulV W (serV (mulV W W 30) sinL 5) 30 ∧ (H1 || qrtH W) = (H1 || mulH W W 30 || serH (mulV W W 30) sinL 5 || mulH W (serV (mulV W W 30) sinL 5) 30) by
   rw [QE.out.1, QE.out.2, if_pos hx, if_pos hx]; unfold sn1H sn1V; exact ⟨rfl, by simp [Bool.or_assoc]⟩)
  obtain ⟨z, hz⟩ : ∃ x, mulV W W 30 = x := ⟨_, rfl⟩
  obtain ⟨H2, hH2⟩ : ∃ x, (H1 || mulH W W 30) = x := ⟨_, rfl⟩
  rw [hz, hH2] at QV
  have MC := fun (x : World) (k : x.cell? c = some (.bool H1)) (f : x.frozen? c = false) => rm_any c H1 W W x k f
  rw [hz, hH2] at MC
  obtain ⟨V, hV⟩ : ∃ x, serV z sinL 5 = x := ⟨_, rfl⟩
  obtain ⟨G, hG⟩ : ∃ x, (H2 || serH z sinL 5) = x := ⟨_, rfl⟩
  rw [hV, hG] at QV
  have CV := Lib.hid (And.intro hV.symm hG)
  have MC := Lib.hid MC
  have MD := Lib.hid (fun (x : World) (k : x.cell? c = some (.bool G)) (f : x.frozen? c = false) => rm_any c G W V x k f)
  clear QE hz hH2 hV hG hx eY
  rcases cs with ⟨d1, e1⟩ | ⟨d1, d2, e1⟩ | ⟨d1, d2, rfl⟩
  all_goals
   go_upto_region 7 with fail
   generalize w1.alloc (.cells #[.bool false] 36) = W0 at *
   obtain ⟨qb, hqb⟩ : ∃ x, w1.heap.size = x := ⟨_, rfl⟩
   rw [hqb] at R0 ⊢
   clear hqb
   rcases cw with ⟨s1, s2⟩ | ⟨s1, rfl⟩
   all_goals
    go_upto_region 22 with (go_at_call 61; (refine (MC.out _ R0.out.cell R0.out.free).mono ?_); rintro e w3 ⟨rfl, hu⟩; have R1 := Lib.hid (R0.out.upd' hu); clear hu R0 MC)
    have R2 := Lib.hid (rsn_lst5 R1.out)
    clear R1
    go_upto_region 23 with fail
    generalize w3.alloc (.cells #[.int .i64 2959, .int .i64 (-213044), .int .i64 8947849, .int .i64 (-178956971), .int .i64 1073741824] 2) = W4 at *
    obtain ⟨lb, hlb⟩ : ∃ x, w3.heap.size = x := ⟨_, rfl⟩
    rw [hlb] at R2 ⊢
    clear hlb
    have R3 : Hid (RslR c H2 qb lb 5 sinL w W4) := Lib.hid R2.out
    clear R2
    go_wp2_with fail
    go_loopw [14, 15] (fun s i wr => ∃ k : Nat, k ≤ 5 ∧ i = .int .i64 k ∧ s = .int .i64 (serV z sinL k) ∧ Hid (RslR c (H2 || serH z sinL k) qb lb 5 sinL w wr)) (fun _ i _ => 5 - (intOf i).toNat)
    case atStart => exact ⟨0, by omega, rfl, rfl, by rw [show (H2 || serH z sinL 0) = H2 by simp [serH]]; exact R3⟩
    case round =>
     obtain ⟨k, hk, rfl, rfl, R⟩ := hrel
     clear R3
     by_cases hlt : k < 5
     ·have g1 : decide ((k : Int) < 5) = true := by simp; omega
      have k0 : (0 : Int) ≤ (k : Int) := Int.natCast_nonneg _
      have k1 : (k : Int) < 5 := by omega
      have FL := Lib.hid (show (H2 || serH z sinL k || mulH z (serV z sinL k) 30 || addH (sinL (k + 1)) (mulV z (serV z sinL k) 30)) = (H2 || serH z sinL (k + 1)) ∧ addV (sinL (k + 1)) (mulV z (serV z sinL k) 30) = serV z sinL (k + 1) from ⟨by simp [serH, Bool.or_assoc], rfl⟩)
      obtain ⟨s, hs⟩ : ∃ x, serV z sinL k = x := ⟨_, rfl⟩
      obtain ⟨H3, hH3⟩ : ∃ x, (H2 || serH z sinL k) = x := ⟨_, rfl⟩
      obtain ⟨y, hy⟩ : ∃ x, sinL (k + 1) = x := ⟨_, rfl⟩
      obtain ⟨m, hm⟩ : ∃ x, mulV z s 30 = x := ⟨_, rfl⟩
      have LX := R.out.2.1 k hlt
      rw [hs, hH3, hy, hm] at FL
      rw [hH3] at R
      rw [hy] at LX
      rw [hs]
      have GM := Lib.hid hm
      have GY := Lib.hid hy
      clear hs hH3 hy hm
      go_upto_region 27 with fail
      have HS := Lib.hid (R.out.down (Below.drew (Below.refl _ _)))
      clear R
      refine wp_region_M (fun w' => w'.cell? ⟨lb, k, none⟩ = some (.int .i64 y)) 14 (by kernel_rfl) ?_ (fun hHeld => ?_)
      ·exact (HS.out.2.1 k hlt).trans (congrArg (fun z => some (Go.Value.int .i64 z)) GY.out)
      refine tk 0 ?_
      (try simp only [Act.put, nA, nB, nC])
      refine tk 1 ?_
      (try simp only [Act.put, nA, nB, nC])
      refine tk 2 ?_
      (try simp only [Act.put, nA, nB, nC])
      refine tk 3 ?_
      (try simp only [Act.put, nA, nB, nC])
      refine tk 4 ?_
      (try simp only [Act.put, nA, nB, nC])
      refine tk 5 ?_
      (try simp only [Act.put, nA, nB, nC])
      refine tk 6 ?_
      (try simp only [Act.put, nA, nB, nC])
      refine tk 7 ?_
      (try simp only [Act.put, nA, nB, nC])
      refine tk 8 ?_
      (try simp only [Act.put, nA, nB, nC])
      refine tk 9 ?_
      (try simp only [Act.put, nA, nB, nC])
      refine tk 10 ?_
      (try simp only [Act.put, nA, nB, nC])
      refine tk 11 ?_
      (try simp only [Act.put, nA, nB, nC])
      refine wpAnyM_oneS 12 rfl (by kernel_rfl) (fun K hK => ?_)
      go_simp
      (refine (rm_any c H3 z s _ HS.out.1.cell HS.out.1.free).mono ?_); (rw [GM.out]); rintro e w5 ⟨rfl, hu⟩; have HU := Lib.hid (HS.out.upd' hu); clear HS hu; have HS := HU; clear HU
      (try dsimp only)
      (try simp only [Act.put, nA, nB, nC])
      clear hHeld
      refine hK.out _ _ ?_ (fun hHeld => ?_)
      ·exact (HS.out.2.1 k hlt).trans (congrArg (fun z => some (Go.Value.int .i64 z)) GY.out)
      clear hK K
      (try simp only [Act.put, nA, nB, nC])
      refine wpAnyM_oneS 13 rfl (by kernel_rfl) (fun K hK => ?_)
      go_simp
      (refine (rplus_upd c _ y m _ HS.out.1.cell HS.out.1.free).mono ?_); (rw [FL.out.2]); rintro e w6 ⟨rfl, hu⟩; have HU := Lib.hid (HS.out.upd' hu); clear HS hu; have HS := HU; clear HU; (rw [FL.out.1] at HS)
      (try dsimp only)
      (try simp only [Act.put, nA, nB, nC])
      clear hHeld
      refine hK.out _ _ ?_ (fun hHeld => ?_)
      ·exact (HS.out.2.1 k hlt).trans (congrArg (fun z => some (Go.Value.int .i64 z)) GY.out)
      clear hK K
      (try simp only [Act.put, nA, nB, nC])
      refine wpAnyM_one 14 rfl (by kernel_rfl) (fun K hK => ?_)
      go_simp
      refine hK.out _ _ (.inl (by kernel_rfl)) (fun _ => ?_)
      clear hK K
      (try simp only [Act.put, nA, nB, nC])
      refine wpAnyM_done (by kernel_rfl) ?_ _
      go_wp2_with fail
      go_roundw
      case rel => exact ⟨k + 1, by omega, by go_num, rfl, HS⟩
      case measure => simp [intOf]; omega
     ·obtain rfl : k = 5 := by omega
      rw [show ((5 : Nat) : Int) = (5 : Int) from rfl, ← CV.out.1]
      have g1 : decide ((5 : Int) < 5) = false := by decide
      rw [CV.out.2] at R
      go_wp2_with (first | (go_at_call 61; (refine (MD.out _ R.out.1.cell R.out.1.free).mono ?_); rintro e w6 ⟨rfl, hu⟩; have HS := Lib.hid (R.out.1.upd' hu); clear hu R MD) | (go_at_call 58; (refine (rclamp_any ⟨qb, 0, none⟩ false _ _ _ _ HS.out.q HS.out.qf).mono ?_); rintro e w7 ⟨rfl, rfl⟩))
      go_ret
      exact ⟨congrArg (fun x => Go.Ending.returned (Go.Value.int .i64 x)) (by rw [oneC_clamp, EV.out.1, QV.out.1]), by rw [EV.out.2, QV.out.2]; exact HS.out.upd.setCell (by have := HS.out.lt; simpa using this) _⟩
 ·have dx : decide (843314857 < X) = true := by simp; omega
  have QV := Lib.hid (show qrtV W = (if W < 0 then -cs1V Y else cs1V Y) ∧ (H1 || qrtH W) = (H1 || mulH Y Y 30 || serH (mulV Y Y 30) cosL 6) by
   rw [QE.out.1, QE.out.2, if_neg hx, if_neg hx]; unfold cs1H; exact ⟨rfl, by simp [Bool.or_assoc]⟩)
  have Cbd := cs1V_bd Y
  have CV := Lib.hid (show cs1V Y = serV (mulV Y Y 30) cosL 6 from rfl)
  obtain ⟨V, hV⟩ : ∃ x, cs1V Y = x := ⟨_, rfl⟩
  rw [hV] at QV Cbd CV
  have eC : IntKind.i64.wrap (-V) = -V := IntWalk.i64_in _ (by omega)
  obtain ⟨z, hz⟩ : ∃ x, mulV Y Y 30 = x := ⟨_, rfl⟩
  obtain ⟨H2, hH2⟩ : ∃ x, (H1 || mulH Y Y 30) = x := ⟨_, rfl⟩
  rw [hz] at QV CV
  rw [hH2] at QV
  have MC := fun (x : World) (k : x.cell? c = some (.bool H1)) (f : x.frozen? c = false) => rm_any c H1 Y Y x k f
  rw [hz, hH2] at MC
  have MC := Lib.hid MC
  clear QE hz hH2 hV hx Cbd
  rcases cs with ⟨d1, e1⟩ | ⟨d1, d2, e1⟩ | ⟨d1, d2, rfl⟩
  all_goals
   go_upto_region 7 with fail
   generalize w1.alloc (.cells #[.bool false] 36) = W0 at *
   obtain ⟨qb, hqb⟩ : ∃ x, w1.heap.size = x := ⟨_, rfl⟩
   rw [hqb] at R0 ⊢
   clear hqb
   rcases cw with ⟨s1, s2⟩ | ⟨s1, rfl⟩
   all_goals
    go_upto_region 12 with (go_at_call 61; (refine (MC.out _ R0.out.cell R0.out.free).mono ?_); rintro e w3 ⟨rfl, hu⟩; have R1 := Lib.hid (R0.out.upd' hu); clear hu R0 MC)
    have R2 := Lib.hid (rsn_lst R1.out)
    clear R1
    go_upto_region 13 with fail
    generalize w3.alloc (.cells #[.int .i64 (-296), .int .i64 26631, .int .i64 (-1491308), .int .i64 44739243, .int .i64 (-536870912), .int .i64 1073741824] 2) = W4 at *
    obtain ⟨lb, hlb⟩ : ∃ x, w3.heap.size = x := ⟨_, rfl⟩
    rw [hlb] at R2 ⊢
    clear hlb
    have R3 : Hid (RslR c H2 qb lb 6 cosL w W4) := Lib.hid R2.out
    clear R2
    go_wp2_with fail
    go_loopw [10, 11] (fun s i wr => ∃ k : Nat, k ≤ 6 ∧ i = .int .i64 k ∧ s = .int .i64 (serV z cosL k) ∧ Hid (RslR c (H2 || serH z cosL k) qb lb 6 cosL w wr)) (fun _ i _ => 6 - (intOf i).toNat)
    case atStart => exact ⟨0, by omega, rfl, rfl, by rw [show (H2 || serH z cosL 0) = H2 by simp [serH]]; exact R3⟩
    case round =>
     obtain ⟨k, hk, rfl, rfl, R⟩ := hrel
     clear R3
     by_cases hlt : k < 6
     ·have g1 : decide ((k : Int) < 6) = true := by simp; omega
      have k0 : (0 : Int) ≤ (k : Int) := Int.natCast_nonneg _
      have k1 : (k : Int) < 6 := by omega
      have FL := Lib.hid (show (H2 || serH z cosL k || mulH z (serV z cosL k) 30 || addH (cosL (k + 1)) (mulV z (serV z cosL k) 30)) = (H2 || serH z cosL (k + 1)) ∧ addV (cosL (k + 1)) (mulV z (serV z cosL k) 30) = serV z cosL (k + 1) from ⟨by simp [serH, Bool.or_assoc], rfl⟩)
      obtain ⟨s, hs⟩ : ∃ x, serV z cosL k = x := ⟨_, rfl⟩
      obtain ⟨H3, hH3⟩ : ∃ x, (H2 || serH z cosL k) = x := ⟨_, rfl⟩
      obtain ⟨y, hy⟩ : ∃ x, cosL (k + 1) = x := ⟨_, rfl⟩
      obtain ⟨m, hm⟩ : ∃ x, mulV z s 30 = x := ⟨_, rfl⟩
      have LX := R.out.2.1 k hlt
      rw [hs, hH3, hy, hm] at FL
      rw [hH3] at R
      rw [hy] at LX
      rw [hs]
      have GM := Lib.hid hm
      have GY := Lib.hid hy
      clear hs hH3 hy hm
      go_upto_region 17 with fail
      have HS := Lib.hid (R.out.down (Below.drew (Below.refl _ _)))
      clear R
      refine wp_region_M (fun w' => w'.cell? ⟨lb, k, none⟩ = some (.int .i64 y)) 14 (by kernel_rfl) ?_ (fun hHeld => ?_)
      ·exact (HS.out.2.1 k hlt).trans (congrArg (fun z => some (Go.Value.int .i64 z)) GY.out)
      refine tk 0 ?_
      (try simp only [Act.put, nA, nB, nC])
      refine tk 1 ?_
      (try simp only [Act.put, nA, nB, nC])
      refine tk 2 ?_
      (try simp only [Act.put, nA, nB, nC])
      refine tk 3 ?_
      (try simp only [Act.put, nA, nB, nC])
      refine tk 4 ?_
      (try simp only [Act.put, nA, nB, nC])
      refine tk 5 ?_
      (try simp only [Act.put, nA, nB, nC])
      refine tk 6 ?_
      (try simp only [Act.put, nA, nB, nC])
      refine tk 7 ?_
      (try simp only [Act.put, nA, nB, nC])
      refine tk 8 ?_
      (try simp only [Act.put, nA, nB, nC])
      refine tk 9 ?_
      (try simp only [Act.put, nA, nB, nC])
      refine tk 10 ?_
      (try simp only [Act.put, nA, nB, nC])
      refine tk 11 ?_
      (try simp only [Act.put, nA, nB, nC])
      refine wpAnyM_oneS 12 rfl (by kernel_rfl) (fun K hK => ?_)
      go_simp
      (refine (rm_any c H3 z s _ HS.out.1.cell HS.out.1.free).mono ?_); (rw [GM.out]); rintro e w5 ⟨rfl, hu⟩; have HU := Lib.hid (HS.out.upd' hu); clear HS hu; have HS := HU; clear HU
      (try dsimp only)
      (try simp only [Act.put, nA, nB, nC])
      clear hHeld
      refine hK.out _ _ ?_ (fun hHeld => ?_)
      ·exact (HS.out.2.1 k hlt).trans (congrArg (fun z => some (Go.Value.int .i64 z)) GY.out)
      clear hK K
      (try simp only [Act.put, nA, nB, nC])
      refine wpAnyM_oneS 13 rfl (by kernel_rfl) (fun K hK => ?_)
      go_simp
      (refine (rplus_upd c _ y m _ HS.out.1.cell HS.out.1.free).mono ?_); (rw [FL.out.2]); rintro e w6 ⟨rfl, hu⟩; have HU := Lib.hid (HS.out.upd' hu); clear HS hu; have HS := HU; clear HU; (rw [FL.out.1] at HS)
      (try dsimp only)
      (try simp only [Act.put, nA, nB, nC])
      clear hHeld
      refine hK.out _ _ ?_ (fun hHeld => ?_)
      ·exact (HS.out.2.1 k hlt).trans (congrArg (fun z => some (Go.Value.int .i64 z)) GY.out)
      clear hK K
      (try simp only [Act.put, nA, nB, nC])
      refine wpAnyM_one 14 rfl (by kernel_rfl) (fun K hK => ?_)
      go_simp
      refine hK.out _ _ (.inl (by kernel_rfl)) (fun _ => ?_)
      clear hK K
      (try simp only [Act.put, nA, nB, nC])
      refine wpAnyM_done (by kernel_rfl) ?_ _
      go_wp2_with fail
      go_roundw
      case rel => exact ⟨k + 1, by omega, by go_num, rfl, HS⟩
      case measure => simp [intOf]; omega
     ·obtain rfl : k = 6 := by omega
      rw [show ((6 : Nat) : Int) = (6 : Int) from rfl, ← CV.out]
      have g1 : decide ((6 : Int) < 6) = false := by decide
      go_wp2_with (go_at_call 58; (refine (rclamp_any ⟨qb, 0, none⟩ false _ _ _ _ R.out.1.q R.out.1.qf).mono ?_); rintro e w7 ⟨rfl, rfl⟩)
      go_ret
      exact ⟨congrArg (fun x => Go.Ending.returned (Go.Value.int .i64 x)) (by rw [oneC_clamp, EV.out.1, QV.out.1]; first | rw [if_pos (of_decide_eq_true s1)] | rw [if_neg (of_decide_eq_false s1)]), by rw [EV.out.2, QV.out.2]; exact R.out.1.upd.setCell (by have := R.out.1.lt; simpa using this) _⟩
end Go.Proofs.YtgfklheepkgedaaGreat
