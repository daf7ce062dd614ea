/- Contracts of the program's functions and plain laws, part 17: they hold for all arguments. -/
import Derived.Test.YtgpnopiinogkmaaQ16
import Derived.Test.YtgpnopiinogkmaaQ03
import Derived.Test.YtgpnopiinogkmaaQ14
import Derived.Test.YtgpnopiinogkmaaQ15
import Derived.Test.YtgpnopiinogkmaaQ06
import Derived.Test.YtgpnopiinogkmaaQ08
/- Contracts of the reference's scalars (6): divided. -/
namespace Go.Proofs.Ytgpnopiinogkmaa
open Go.RowKit
set_option maxRecDepth 100000
theorem Wid.set0 {w : World} {b : Nat} {M N : Int} {m : Bool} (h : Wid w b M m) (hl : lo64 M = lo64 N) : Wid (w.setCell ⟨b, 0, none⟩ (.int .u64 (hi64 N))) b N m := by
  have := heap_setCell_same w b 0 _ _ (.int .u64 (hi64 N)) h
  rw [hl] at this
  exact this
theorem Wid.set1 {w : World} {b : Nat} {M N : Int} {m : Bool} (h : Wid w b M m) (hl : hi64 M = hi64 N) : Wid (w.setCell ⟨b, 1, none⟩ (.int .u64 (lo64 N))) b N m := by
  have := heap_setCell_same w b 1 _ _ (.int .u64 (lo64 N)) h
  rw [hl] at this
  exact this
theorem and63 : ∀ j, j < 128 → bits .and .i64 ((j : Nat) : Int) 63 = ((j % 64 : Nat) : Int) := by decide +kernel
theorem pow_wrap (s : Nat) (hs : s < 64) : IntKind.u64.wrap ((2 : Int) ^ s) = 2 ^ s := by
  have h : 2 ^ s < 18446744073709551616 := by rw [show 18446744073709551616 = 2 ^ 64 from rfl]; exact Nat.pow_lt_pow_right (by decide) hs
  rw [show (2 : Int) ^ s = ((2 ^ s : Nat) : Int) by simp]
  generalize 2 ^ s = x at *
  rw [IntKind.wrap_u64]
  omega
/-- What a round of 'divided' keeps. -/
structure DvR (M Q : Nat) (m : Bool) (w wr : World) : Prop where
  below : Below w.heap.size w wr
  a : Wid wr w.heap.size M m
  q : Wid wr (w.heap.size + 1 + 1) Q m
  z : Wid wr (w.heap.size + 1) 0 false
set_option maxHeartbeats 8000000 in
theorem rdivided_any (M d : Nat) (m : Bool) (w : World) (hM : M < 340282366920938463463374607431768211456) (d0 : 0 < d) (d1 : d ≤ 1152921504606846976) :
    Calls Try.prog 67 #[.agg #[.int .u64 (hi64 (M : Int)), .int .u64 (lo64 (M : Int)), .bool m], .int .u64 (d : Int)] w fun e w' =>
      e = .returned (.agg #[.int .u64 (hi64 (dvM M d : Nat)), .int .u64 (lo64 (dvM M d : Nat)), .bool m]) ∧ Below w.heap.size w w' := by
  have HM := Lib.hid (And.intro hM (And.intro d0 d1))
  have R0 : Hid (DvR M (M / 2 ^ 128 / d * 2 ^ 128) m w (((w.alloc (.cells #[.int .u64 (hi64 (M : Int)), .int .u64 (lo64 (M : Int)), .bool m] 101)).alloc (.cells #[.int .u64 0, .int .u64 0, .bool false] 101)).alloc (.cells #[.int .u64 0, .int .u64 0, .bool m] 101))) := by
    refine Lib.hid ⟨by (repeat (first | with_reducible exact Below.refl _ _ | with_reducible apply Below.drew | (with_reducible refine below_drewN ?_ _) | (with_reducible refine Below.alloc ?_ (by (try simp) <;> omega) _) | (with_reducible refine Below.setCell ?_ (by (try simp) <;> omega) _))), ((Wid.new w (M : Int) m).alloc _).alloc _, ?_, ?_⟩
    · have e : M / 2 ^ 128 = 0 := Nat.div_eq_of_lt hM
      rw [e, Nat.zero_div, Nat.zero_mul]
      have h := Wid.new ((w.alloc (.cells #[.int .u64 (hi64 (M : Int)), .int .u64 (lo64 (M : Int)), .bool m] 101)).alloc (.cells #[.int .u64 0, .int .u64 0, .bool false] 101)) 0 m
      rw [show hi64 0 = 0 by decide, show lo64 0 = 0 by decide] at h
      simpa using h
    · have h := (Wid.new (w.alloc (.cells #[.int .u64 (hi64 (M : Int)), .int .u64 (lo64 (M : Int)), .bool m] 101)) 0 false).alloc (.cells #[.int .u64 0, .int .u64 0, .bool m] 101)
      rw [show hi64 0 = 0 by decide, show lo64 0 = 0 by decide] at h
      simpa using h
  have E0 : ((M / 2 ^ 128 % d : Nat) : Int) = 0 := by rw [Nat.div_eq_of_lt hM]; simp
  clear hM d0 d1
  go_enter Try.func67, Try.ntmps67
  go_upto_region 4 with fail
  generalize ((w.alloc (.cells #[.int .u64 (hi64 (M : Int)), .int .u64 (lo64 (M : Int)), .bool m] 101)).alloc (.cells #[.int .u64 0, .int .u64 0, .bool false] 101)).alloc (.cells #[.int .u64 0, .int .u64 0, .bool m] 101) = W0 at *
  go_wp2_with fail
  go_loopw [6, 7, 8] (fun v6 v7 v8 wr => ∃ (k : Nat) (i : Int), k ≤ 128 ∧ i = (k : Int) - 1 ∧ v7 = .int .i64 i ∧ v6 = .int .u64 ((M / 2 ^ k % d : Nat) : Int) ∧ Hid (DvR M (M / 2 ^ k / d * 2 ^ k) m w wr)) (fun _ v _ _ => (intOf v + 1).toNat)
  case atStart => exact ⟨128, 127, by omega, by omega, rfl, by rw [E0], R0⟩
  case round =>
    obtain ⟨k, i, hk, hi, rfl, rfl, R⟩ := hrel
    clear R0 E0
    cases k with
    | zero =>
      obtain rfl : i = -1 := by omega
      rw [Nat.pow_zero, Nat.div_one, Nat.mul_one] at R
      rw [Nat.pow_zero, Nat.div_one]
      obtain ⟨bw, ba, qa, zb⟩ := R.out
      obtain ⟨⟨u0, u1, u2⟩, v0, v1, v2⟩ := qa.c
      have rl := Nat.mod_lt M HM.out.2.1
      obtain ⟨r, hr⟩ : ∃ r, M % d = r := ⟨_, rfl⟩
      obtain ⟨q, hq⟩ : ∃ q, M / d = q := ⟨_, rfl⟩
      rw [hr] at rl ⊢
      rw [hq] at u0 u1 qa
      have hsz := qa.lt
      obtain ⟨⟨z0, z1, z2⟩, x0, x1, x2⟩ := zb.c
      rw [show hi64 0 = 0 by decide] at z0
      rw [show lo64 0 = 0 by decide] at z1
      have e1 : IntKind.u64.wrap ((d : Int) - (r : Int)) = ((d - r : Nat) : Int) := by have := HM.out.2; rw [IntKind.wrap_u64]; omega
      obtain ⟨u, hu⟩ : ∃ u, d - r = u := ⟨_, rfl⟩
      rw [hu] at e1
      have HD := Lib.hid (show dvM M d = if r ≥ u then q + 1 else q by unfold dvM; rw [hr, hq, hu])
      have hq2 : q + 1 < 340282366920938463463374607431768211456 ∨ d = 1 := by
        by_cases h1 : d = 1
        · exact .inr h1
        · have : q ≤ M / 2 := by rw [← hq]; exact Nat.div_le_div_left (by have := HM.out.2; omega) (by decide)
          have := HM.out.1
          omega
      have HQ2 := Lib.hid hq2
      have HM2 := Lib.hid HM.out.2
      clear hq hr hq2 HM hi
      by_cases hg : u ≤ r
      · have g1 : decide (u ≤ r) = true := by simpa using hg
        have AD := Lib.hid (fun w => radd_any q 1 m m w (by have := HQ2.out; have := HM2.out; omega))
        rw [show adM m m q 1 = q + 1 from by unfold adM; simp, show adS m m q 1 = m from by unfold adS; simp] at AD
        rw [show hi64 ((1 : Nat) : Int) = 0 from by decide, show lo64 ((1 : Nat) : Int) = 1 from by decide] at AD
        rw [if_pos hg] at HD
        go_wp2_with fail
        refine (AD.out _).mono ?_; rintro e w1 ⟨rfl, hb1⟩
        have q1 := qa.below hb1
        have o1 := zb.below hb1
        have B1 := Lib.hid (bw.trans (hb1.mono bw.size))
        have hsz1 := q1.lt
        clear u0 u1 u2 v0 v1 v2 z0 z1 z2 x0 x1 x2 hsz R bw ba qa zb AD hb1
        obtain ⟨⟨u0, u1, u2⟩, v0, v1, v2⟩ := q1.c
        obtain ⟨⟨z0, z1, z2⟩, x0, x1, x2⟩ := o1.c
        rw [show hi64 0 = 0 by decide] at z0
        rw [show lo64 0 = 0 by decide] at z1
        go_wp2_with fail
        refine bodyPost_ret (v := .agg #[.int .u64 (hi64 ((q + 1 : Nat) : Int)), .int .u64 (lo64 ((q + 1 : Nat) : Int)), .bool m]) (by simp [results, Try.results67, go_sem, *]) rfl ⟨?_, ?_⟩
        · rw [HD.out]
        · have bw := B1.out
          (repeat (first | exact bw | (refine Below.setCell ?_ (by (try simp) <;> omega) _)))
      · have g1 : decide (u ≤ r) = false := by simpa using hg
        rw [if_neg hg] at HD
        go_wp2_with fail
        refine bodyPost_ret (v := .agg #[.int .u64 (hi64 (q : Int)), .int .u64 (lo64 (q : Int)), .bool m]) (by simp [results, Try.results67, go_sem, *]) rfl ⟨?_, ?_⟩
        · rw [HD.out]
        · (repeat (first | exact bw | (refine Below.setCell ?_ (by (try simp) <;> omega) _)))
    | succ j =>
      obtain rfl : i = (j : Int) := by omega
      have g1 : decide (0 ≤ (j : Int)) = true := by simp
      obtain ⟨T, hT⟩ : ∃ T, M / 2 ^ j = T := ⟨_, rfl⟩
      obtain ⟨H, hH⟩ : ∃ H, M / 2 ^ (j + 1) = H := ⟨_, rfl⟩
      obtain ⟨r, hr⟩ : ∃ r, H % d = r := ⟨_, rfl⟩
      obtain ⟨q, hq⟩ : ∃ q, H / d = q := ⟨_, rfl⟩
      obtain ⟨b, hb⟩ : ∃ b, T % 2 = b := ⟨_, rfl⟩
      obtain ⟨b2, r1, y1, y2⟩ := dv_two T d b H r q HM.out.2.1 hb (by rw [← hT, ← half_pow, hH]) hr hq
      rw [hH, hq] at R
      rw [hH, hr]
      have W2 := Lib.hid HM.out.2
      have e2 : IntKind.u64.wrap ((r : Int) * 2) = (r : Int) * 2 := by have := W2.out; rw [IntKind.wrap_u64]; omega
      have e3 := or_one r b (by have := W2.out; omega) b2
      obtain ⟨t, ht⟩ : ∃ t, 2 * r + b = t := ⟨_, rfl⟩
      rw [ht] at e3 y1 y2
      have t2 : t < 2 * d := by omega
      have qb : q * 2 ^ (j + 1) ≤ M := by rw [← hq, ← hH]; exact Nat.le_trans (Nat.mul_le_mul_right _ (Nat.div_le_self _ _)) (Nat.div_mul_le_self _ _)
      obtain ⟨Q, hQ⟩ : ∃ Q, q * 2 ^ (j + 1) = Q := ⟨_, rfl⟩
      rw [hQ] at R qb
      have HQ := Lib.hid hQ
      clear hQ
      obtain ⟨bw, ba, qa, zb⟩ := R.out
      obtain ⟨⟨c0, c1, c2⟩, _⟩ := ba.c
      obtain ⟨⟨u0, u1, u2⟩, v0, v1, v2⟩ := qa.c
      obtain ⟨s, hs⟩ : ∃ s, j % 64 = s := ⟨_, rfl⟩
      have s64 : s < 64 := by omega
      have f1 : bits .and .i64 (j : Int) 63 = (s : Int) := by rw [and63 j (by omega), hs]
      have f2 : IntKind.u64.wrap (s : Int) = (s : Int) := by rw [IntKind.wrap_u64]; omega
      have f3 := bit_lo M s s64
      have f4 := bit_hi M s HM.out.1
      have f5 := pow_wrap s s64
      have f6 : min s 64 = s := by omega
      have E2 := Lib.hid e2
      have Y := Lib.hid (And.intro y1 y2)
      have QB := Lib.hid qb
      have HM1 := Lib.hid HM.out.1
      clear e2 y1 y2 qb hr hq HM hi
      obtain ⟨bl, hbl⟩ : ∃ x, M / 2 ^ s % 2 = x := ⟨_, rfl⟩
      obtain ⟨bh, hbh⟩ : ∃ x, M / 2 ^ (64 + s) % 2 = x := ⟨_, rfl⟩
      rw [hbl] at f3
      rw [hbh] at f4
      have e2 := E2.out
      by_cases h64 : 64 ≤ j
      · have g2 : decide (64 ≤ (j : Int)) = true := by simp; omega
        have hj : j = 64 + s := by omega
        have HJ := Lib.hid hj
        obtain rfl : bh = b := by rw [← hbh, ← hb, ← hT, hj]
        clear hj hs hbl hbh hb
        by_cases hlt : t < d
        · have g3 : decide (d ≤ t) = false := by simp; omega
          have e0 : Q = 2 * q * 2 ^ j := by rw [← HQ.out, Nat.pow_succ, Nat.mul_comm (2 ^ j) 2, ← Nat.mul_assoc, Nat.mul_comm q 2]
          go_wp2_with fail
          go_roundw
          case rel =>
            refine ⟨j, (j : Int) - 1, by omega, rfl, by go_num, ?_, ?_⟩
            · rw [hT, (Y.out.1 hlt).1]
            · rw [hT, (Y.out.1 hlt).2, ← e0]; exact R
          case measure => simp [intOf]
        · have g3 : decide (d ≤ t) = true := by simp; omega
          obtain ⟨N, hN⟩ : ∃ N, (2 * q + 1) * 2 ^ j = N := ⟨_, rfl⟩
          have HN := Lib.hid hN
          have e4 : IntKind.u64.wrap ((t : Int) - (d : Int)) = ((t - d : Nat) : Int) := by have := W2.out; rw [IntKind.wrap_u64]; omega
          obtain ⟨u, hu⟩ : ∃ u, t - d = u := ⟨_, rfl⟩
          rw [hu] at e4
          obtain ⟨o1, o2⟩ := (show _ ∧ _ from by have := or_hi q s (by rw [← HJ.out, HQ.out]; have := QB.out; have := HM1.out; omega) s64; rw [← HJ.out, HQ.out] at this; exact this)
          rw [hN] at o1 o2
          clear hN
          go_wp2_with fail
          go_roundw
          case rel =>
            refine ⟨j, (j : Int) - 1, by omega, rfl, by go_num, ?_, ?_⟩
            · rw [hT, (Y.out.2 hlt).1, hu]
            · rw [hT, (Y.out.2 hlt).2, HN.out]
              exact Lib.hid ⟨bw.setCell (by simp; omega) _, ba.other (by simp; omega) _, qa.set0 o2, zb.other (by simp) _⟩
          case measure => simp [intOf]
      · have g2 : decide (64 ≤ (j : Int)) = false := by simp; omega
        have hj : j = s := by omega
        have HJ := Lib.hid hj
        obtain rfl : bl = b := by rw [← hbl, ← hb, ← hT, hj]
        clear hj hs hbl hbh hb
        by_cases hlt : t < d
        · have g3 : decide (d ≤ t) = false := by simp; omega
          have e0 : Q = 2 * q * 2 ^ j := by rw [← HQ.out, Nat.pow_succ, Nat.mul_comm (2 ^ j) 2, ← Nat.mul_assoc, Nat.mul_comm q 2]
          go_wp2_with fail
          go_roundw
          case rel =>
            refine ⟨j, (j : Int) - 1, by omega, rfl, by go_num, ?_, ?_⟩
            · rw [hT, (Y.out.1 hlt).1]
            · rw [hT, (Y.out.1 hlt).2, ← e0]; exact R
          case measure => simp [intOf]
        · have g3 : decide (d ≤ t) = true := by simp; omega
          obtain ⟨N, hN⟩ : ∃ N, (2 * q + 1) * 2 ^ j = N := ⟨_, rfl⟩
          have HN := Lib.hid hN
          have e4 : IntKind.u64.wrap ((t : Int) - (d : Int)) = ((t - d : Nat) : Int) := by have := W2.out; rw [IntKind.wrap_u64]; omega
          obtain ⟨u, hu⟩ : ∃ u, t - d = u := ⟨_, rfl⟩
          rw [hu] at e4
          obtain ⟨o1, o2⟩ := (show _ ∧ _ from by have := or_lo q s (by rw [← HJ.out, HQ.out]; have := QB.out; have := HM1.out; omega) s64; rw [← HJ.out, HQ.out, show (2 : Int) ^ j = 2 ^ s by rw [HJ.out]] at this; exact this)
          rw [hN] at o1 o2
          clear hN
          go_wp2_with fail
          go_roundw
          case rel =>
            refine ⟨j, (j : Int) - 1, by omega, rfl, by go_num, ?_, ?_⟩
            · rw [hT, (Y.out.2 hlt).1, hu]
            · rw [hT, (Y.out.2 hlt).2, HN.out]
              exact Lib.hid ⟨bw.setCell (by simp; omega) _, ba.other (by simp; omega) _, qa.set1 o2, zb.other (by simp) _⟩
          case measure => simp [intOf]
end Go.Proofs.Ytgpnopiinogkmaa
/- Contracts of the reference's Clamp, Sat. -/
namespace Go.Proofs.Ytgpnopiinogkmaa
open Go.RowKit
set_option maxRecDepth 100000
theorem clamp1 {a lo hi : Int} (h : hi < lo ∨ a < lo) : clampV a lo hi = lo ∧ clampH a lo hi = true := by
  unfold clampV clampH
  rcases h with h | h <;> simp [h]
theorem clamp2 {a lo hi : Int} (h0 : ¬ hi < lo) (h1 : ¬ a < lo) (h : hi < a) : clampV a lo hi = hi ∧ clampH a lo hi = true := by
  simp [clampV, clampH, h0, h1, h]
theorem clamp3 {a lo hi : Int} (h0 : ¬ hi < lo) (h1 : ¬ a < lo) (h2 : ¬ hi < a) : clampV a lo hi = a ∧ clampH a lo hi = false := by
  simp [clampV, clampH, h0, h1, h2]
theorem rclamp_any (c : Addr) (h : Bool) (a lo hi : Int) (w : World) (hc : w.cell? c = some (.bool h)) (hf : w.frozen? c = false) :
    Calls Try.prog 83 #[.pointer (some c), .int .i64 a, .int .i64 lo, .int .i64 hi] w fun e w' =>
      e = .returned (.int .i64 (clampV a lo hi)) ∧ w.setCell c (.bool (h || clampH a lo hi)) = w' := by
  by_cases h1 : a < lo
  · obtain ⟨e1, e2⟩ := clamp1 (hi := hi) (.inr h1)
    rw [e1, e2, Bool.or_true]
    have d1 : decide (a < lo) = true := by simpa using h1
    have d2 : (lo != a) = true := by simp; omega
    clear e1 e2 h1
    go_enter Try.func83, Try.ntmps83
    go_wp2_with fail
    go_ret
    exact ⟨rfl, rfl⟩
  have d1 : decide (a < lo) = false := by simpa using h1
  by_cases h0 : hi < lo
  · obtain ⟨e1, e2⟩ := clamp1 (a := a) (.inl h0)
    rw [e1, e2, Bool.or_true]
    have d0 : decide (hi < lo) = true := by simpa using h0
    clear e1 e2 h0 h1
    by_cases h2 : lo = a
    · subst h2
      have d2 : (lo != lo) = false := by simp
      go_enter Try.func83, Try.ntmps83
      go_wp2_with fail
      go_ret
      exact ⟨rfl, rfl⟩
    · have d2 : (lo != a) = true := by simpa using h2
      clear h2
      go_enter Try.func83, Try.ntmps83
      go_wp2_with fail
      go_ret
      exact ⟨rfl, rfl⟩
  have d0 : decide (hi < lo) = false := by simpa using h0
  by_cases h2 : hi < a
  · obtain ⟨e1, e2⟩ := clamp2 h0 h1 h2
    rw [e1, e2, Bool.or_true]
    have d2 : decide (hi < a) = true := by simpa using h2
    have d3 : (hi != a) = true := by simp; omega
    clear e1 e2 h0 h1 h2
    go_enter Try.func83, Try.ntmps83
    go_wp2_with fail
    go_ret
    exact ⟨rfl, rfl⟩
  · obtain ⟨e1, e2⟩ := clamp3 h0 h1 h2
    rw [e1, e2, Bool.or_false, setCell_self w c _ hc]
    have d2 : decide (hi < a) = false := by simpa using h2
    have d3 : (a != a) = false := by simp
    clear e1 e2 h0 h1 h2
    go_enter Try.func83, Try.ntmps83
    go_wp2_with fail
    go_ret
    exact ⟨rfl, rfl⟩
theorem rsat_any (c : Addr) (h : Bool) (a : Int) (w : World) (hc : w.cell? c = some (.bool h)) (hf : w.frozen? c = false) :
    Calls Try.prog 66 #[.pointer (some c), .int .i64 a] w fun e w' => e = .returned (.int .i64 (satV a)) ∧ w.setCell c (.bool (h || satH a)) = w' := by
  go_enter Try.func66, Try.ntmps66
  go_wp2_with (go_at_call 83; refine (rclamp_any c h a _ _ _ hc hf).mono ?_; rintro e w' ⟨rfl, rfl⟩)
  go_ret
  exact ⟨rfl, rfl⟩
end Go.Proofs.Ytgpnopiinogkmaa
/- Contracts of the reference's scalars (7): Add, Sub, Neg. -/
namespace Go.Proofs.Ytgpnopiinogkmaa
open Go.RowKit
set_option maxRecDepth 100000
end Go.Proofs.Ytgpnopiinogkmaa
/- Contracts of the reference's scalars (8): Mul by 2^30 and 2^44, M. -/
namespace Go.Proofs.Ytgpnopiinogkmaa
open Go.RowKit
set_option maxRecDepth 100000
theorem sg2_mul (x y : Int) (P : Nat) (hP : x.natAbs * y.natAbs = P) : sv (sg2 x y) P = x * y := by
  subst hP
  unfold sv sg2
  have hx := Int.natAbs_mul x y
  by_cases h1 : x < 0 <;> by_cases h2 : y < 0
  · simp only [if_pos h1, if_pos h2, Bool.false_eq_true, if_false]
    rw [← hx]; have := Int.mul_pos_of_neg_of_neg h1 h2; omega
  · simp only [if_pos h1, if_neg h2, if_true]
    rw [← hx]; have := Int.mul_nonpos_of_nonpos_of_nonneg (Int.le_of_lt h1) (Int.not_lt.mp h2); omega
  · simp only [if_neg h1, if_pos h2, if_true]
    rw [← hx]; have := Int.mul_nonpos_of_nonneg_of_nonpos (Int.not_lt.mp h1) (Int.le_of_lt h2); omega
  · simp only [if_neg h1, if_neg h2, Bool.false_eq_true, if_false]
    rw [← hx]; have := Int.mul_nonneg (Int.not_lt.mp h1) (Int.not_lt.mp h2); omega
theorem abs_prod_bd (a b : Int) : (satV a).natAbs * (satV b).natAbs ≤ 1329227995784915872903807060280344576 := by
  have ha := satV_bd a
  have hb := satV_bd b
  exact Nat.le_trans (Nat.mul_le_mul (show (satV a).natAbs ≤ 1152921504606846976 by omega) (show (satV b).natAbs ≤ 1152921504606846976 by omega)) (by decide)
set_option maxHeartbeats 1000000 in
theorem rmulS (c : Addr) (h : Bool) (a b s x y : Int) (P N : Nat) (m : Bool) (w : World) (hc : w.cell? c = some (.bool h)) (hf : w.frozen? c = false)
    (hx : satV a = x) (hy : satV b = y)
    (hm : ∀ w, Calls Try.prog 65 #[.int .i64 x, .int .i64 y] w fun e w' => e = .returned (.agg #[.int .u64 (hi64 (P : Int)), .int .u64 (lo64 (P : Int)), .bool m]) ∧ Below w.heap.size w w')
    (hs : ∀ w, Calls Try.prog 64 #[.agg #[.int .u64 (hi64 (P : Int)), .int .u64 (lo64 (P : Int)), .bool m], .int .i64 s] w fun e w' =>
      e = .returned (.agg #[.int .u64 (hi64 (N : Int)), .int .u64 (lo64 (N : Int)), .bool m]) ∧ Below w.heap.size w w') :
    Calls Try.prog 44 #[.pointer (some c), .int .i64 a, .int .i64 b, .int .i64 s] w fun e w' => e = .returned (.int .i64 (satV (sv m N))) ∧ Upd c (h || satH a || satH b || satH (sv m N)) w w' := by
  have hcb := World.block_lt_of_cell? w c hc
  have c1 : (w.setCell c (.bool (h || satH a))).cell? c = some (.bool (h || satH a)) := World.cell?_setCell_same _ _ _ hc
  have c2 : ((w.setCell c (.bool (h || satH a))).setCell c (.bool (h || satH a || satH b))).cell? c = some (.bool (h || satH a || satH b)) := World.cell?_setCell_same _ _ _ c1
  have HM := Lib.hid hm
  have HR := Lib.hid hs
  have C2 := Lib.hid c2
  clear hm hs c2
  go_enter Try.func44, Try.ntmps44
  go_wp2_with fail
  refine (rsat_any c h a _ hc hf).mono ?_; rintro e w' ⟨rfl, rfl⟩
  go_wp2_with fail
  refine (rsat_any c _ b _ c1 (by simp [hf])).mono ?_; rintro e w' ⟨rfl, rfl⟩
  have HW := Lib.hid (Upd.trans (Upd.set c (h || satH a) w) (Upd.set c (h || satH a || satH b) _))
  have F2 : ((w.setCell c (.bool (h || satH a))).setCell c (.bool (h || satH a || satH b))).frozen? c = false := by simp [hf]
  have Z2 := Upd.size HW.out
  obtain ⟨w2, hw2⟩ : ∃ w2, (w.setCell c (.bool (h || satH a))).setCell c (.bool (h || satH a || satH b)) = w2 := ⟨_, rfl⟩
  rw [hw2] at HW C2 F2 Z2 ⊢
  clear hw2 c1 hc hf
  go_wp2_with fail
  refine (HM.out _).mono ?_; rintro e w3 ⟨rfl, hb3⟩
  have k1 : w3.cell? c = some (.bool (h || satH a || satH b)) := (hb3.cell (by omega)).trans C2.out
  have k2 : w3.frozen? c = false := (hb3.frozen (by omega)).trans F2
  have hz := hb3.size
  have HB3 := Lib.hid hb3
  clear hb3 C2 F2
  go_wp2_with fail
  refine (HR.out _).mono ?_; rintro e w4 ⟨rfl, hb4⟩
  have k3 : w4.cell? c = some (.bool (h || satH a || satH b)) := (hb4.cell (by omega)).trans k1
  have k4 : w4.frozen? c = false := (hb4.frozen (by omega)).trans k2
  have HB4 := Lib.hid hb4
  clear hb4 k1 k2
  go_wp2_with fail
  refine (rend2_any c _ N m _ k3 k4).mono ?_; rintro e w5 ⟨rfl, hu5⟩
  go_wp2_with fail
  go_ret
  exact ⟨rfl, HW.out.trans (Upd.after HB3.out (Upd.after HB4.out hu5))⟩
theorem rmul30_any (c : Addr) (h : Bool) (a b : Int) (w : World) (hc : w.cell? c = some (.bool h)) (hf : w.frozen? c = false) :
    Calls Try.prog 44 #[.pointer (some c), .int .i64 a, .int .i64 b, .int .i64 30] w fun e w' => e = .returned (.int .i64 (mulV a b 30)) ∧ Upd c (h || mulH a b 30) w w' := by
  have hp := abs_prod_bd a b
  have ba := satV_bd a
  have bb := satV_bd b
  obtain ⟨P, hP⟩ : ∃ P, (satV a).natAbs * (satV b).natAbs = P := ⟨_, rfl⟩
  have e1 : mulV a b 30 = satV (sv (sg2 (satV a) (satV b)) (shM P 30)) := by rw [← rsh_sv, sg2_mul _ _ P hP]; simp [mulV]
  have e2 : (h || mulH a b 30) = (h || satH a || satH b || satH (sv (sg2 (satV a) (satV b)) (shM P 30))) := by rw [← rsh_sv, sg2_mul _ _ P hP]; simp [mulH, Bool.or_assoc]
  rw [e1, e2]
  rw [hP] at hp
  exact rmulS c h a b 30 _ _ P _ _ w hc hf rfl rfl (fun w => rmul_any _ _ _ w ba.1 ba.2 bb.1 bb.2 (by rw [← hP]; simp)) (fun w => rshift30_any P _ w (by omega))
theorem rm_any (c : Addr) (h : Bool) (a b : Int) (w : World) (hc : w.cell? c = some (.bool h)) (hf : w.frozen? c = false) :
    Calls Try.prog 19 #[.pointer (some c), .int .i64 a, .int .i64 b] w fun e w' => e = .returned (.int .i64 (mulV a b 30)) ∧ Upd c (h || mulH a b 30) w w' := by
  go_enter Try.func19, Try.ntmps19
  go_wp2_with fail
  refine (rmul30_any c h a b _ hc hf).mono ?_; rintro e w1 ⟨rfl, hu⟩
  go_wp2_with fail
  go_ret
  exact ⟨rfl, hu⟩
end Go.Proofs.Ytgpnopiinogkmaa
/- Contracts of the reference's scalars (9): Div, D, MulDiv. -/
namespace Go.Proofs.Ytgpnopiinogkmaa
open Go.RowKit
set_option maxRecDepth 100000
theorem rdiv_sg (a b : Int) (hb : b ≠ 0) : rdiv a b = sv (sg2 a b) (dvM a.natAbs b.natAbs) := by
  have hd : 0 < b.natAbs := by omega
  have e := rdiv_dv false a.natAbs b.natAbs hd
  have h0 : dvM 0 b.natAbs = 0 := by unfold dvM; rw [Nat.zero_mod, Nat.zero_div, if_neg (by omega)]
  unfold rdiv
  have e2 : (((2 * a.natAbs + b.natAbs) / (2 * b.natAbs) : Nat) : Int) = (dvM a.natAbs b.natAbs : Int) := by
    have := e
    unfold rdiv sv at this
    simp only [Bool.false_eq_true, if_false, Int.natAbs_natCast] at this
    rw [if_pos (by simp; omega)] at this
    exact this
  rw [e2]
  by_cases ha0 : a = 0
  · subst ha0
    simp only [Int.natAbs_zero]
    rw [h0, sv_0]
    simp
  · unfold sv sg2
    by_cases h1 : a < 0 <;> by_cases h2 : b < 0
    · simp only [if_pos h1, if_pos h2, Bool.false_eq_true, if_false]
      rw [if_pos (by simp; omega)]
    · simp only [if_pos h1, if_neg h2, if_true]
      rw [if_neg (by simp; omega)]
    · simp only [if_neg h1, if_pos h2, if_true]
      rw [if_neg (by simp; omega)]
    · simp only [if_neg h1, if_neg h2, Bool.false_eq_true, if_false]
      rw [if_pos (by simp; omega)]
theorem sg2_ne (x y : Int) : (!decide (x < 0) == decide (y < 0)) = sg2 x y := by
  unfold sg2
  by_cases h1 : x < 0 <;> by_cases h2 : y < 0 <;> simp [h1, h2]
end Go.Proofs.Ytgpnopiinogkmaa
/- Contracts of the reference's scalars (10): MulDiv. -/
namespace Go.Proofs.Ytgpnopiinogkmaa
open Go.RowKit
set_option maxRecDepth 100000
theorem Wid.set2 {w : World} {b : Nat} {M : Int} {m : Bool} (h : Wid w b M m) (n : Bool) : Wid (w.setCell ⟨b, 2, none⟩ (.bool n)) b M n :=
  heap_setCell_same w b 2 _ _ (.bool n) h
set_option maxHeartbeats 2000000 in
theorem rmdS (c : Addr) (h : Bool) (a b d x y z : Int) (P Z : Nat) (m bz n : Bool) (w : World) (hc : w.cell? c = some (.bool h)) (hf : w.frozen? c = false)
    (hx : satV a = x) (hy : satV b = y) (hz : satV d = z) (hZ : z.natAbs = Z) (hP : P ≤ 1329227995784915872903807060280344576) (dz : decide (z < 0) = bz) (hn : (!m == bz) = n) (z0 : (z == 0) = false)
    (hm : ∀ w, Calls Try.prog 65 #[.int .i64 x, .int .i64 y] w fun e w' => e = .returned (.agg #[.int .u64 (hi64 (P : Int)), .int .u64 (lo64 (P : Int)), .bool m]) ∧ Below w.heap.size w w') :
    Calls Try.prog 45 #[.pointer (some c), .int .i64 a, .int .i64 b, .int .i64 d] w fun e w' => e = .returned (.int .i64 (satV (sv n (dvM P Z)))) ∧ Upd c (h || satH a || satH b || satH d || satH (sv n (dvM P Z))) w w' := by
  have hcb := World.block_lt_of_cell? w c hc
  have bdz := satV_bd d
  rw [hz] at bdz
  have y1 : 0 < Z := by have : z ≠ 0 := by simpa using z0
                        omega
  have HM := Lib.hid hm
  have SZ := Lib.hid (fun w => rsize_any z w bdz.1 bdz.2)
  rw [hZ] at SZ
  have DV := Lib.hid (fun w => rdivided_any P Z n w (by omega) y1 (by omega))
  have c1 : (w.setCell c (.bool (h || satH a))).cell? c = some (.bool (h || satH a)) := World.cell?_setCell_same _ _ _ hc
  have c2 : ((w.setCell c (.bool (h || satH a))).setCell c (.bool (h || satH a || satH b))).cell? c = some (.bool (h || satH a || satH b)) := World.cell?_setCell_same _ _ _ c1
  have C2 := Lib.hid c2
  clear c2 hZ hP bdz y1 hm
  go_enter Try.func45, Try.ntmps45
  go_wp2_with fail
  refine (rsat_any c h a _ hc hf).mono ?_; rintro e w' ⟨rfl, rfl⟩
  go_wp2_with fail
  refine (rsat_any c _ b _ c1 (by simp [hf])).mono ?_; rintro e w' ⟨rfl, rfl⟩
  have HW := Lib.hid (Upd.trans (Upd.set c (h || satH a) w) (Upd.set c (h || satH a || satH b) _))
  have F2 : ((w.setCell c (.bool (h || satH a))).setCell c (.bool (h || satH a || satH b))).frozen? c = false := by simp [hf]
  have Z2 := Upd.size HW.out
  obtain ⟨w2, hw2⟩ : ∃ w2, (w.setCell c (.bool (h || satH a))).setCell c (.bool (h || satH a || satH b)) = w2 := ⟨_, rfl⟩
  rw [hw2] at HW C2 F2 Z2 ⊢
  clear hw2 c1 hc hf
  go_wp2_with fail
  refine (HM.out _).mono ?_; rintro e w3 ⟨rfl, hb3⟩
  have k1 : w3.cell? c = some (.bool (h || satH a || satH b)) := (hb3.cell (by omega)).trans C2.out
  have k2 : w3.frozen? c = false := (hb3.frozen (by omega)).trans F2
  have hs3 := hb3.size
  have HB3 := Lib.hid hb3
  clear hb3 C2 F2
  have k3 : ∀ o, (w3.alloc o).cell? c = some (.bool (h || satH a || satH b)) := fun o => by rw [World.cell?_alloc_lt _ _ _ (by omega)]; exact k1
  have k4 : ∀ cs t, (w3.alloc (.cells cs t)).frozen? c = false := fun cs t => by rw [frozen?_alloc_cells]; exact k2
  have D3 := Lib.hid (Wid.new w3 (P : Int) m)
  have B3 : Hid (Below w3.heap.size w3 (w3.alloc (.cells #[.int .u64 (hi64 (P : Int)), .int .u64 (lo64 (P : Int)), .bool m] 101))) := Lib.hid (by (repeat (first | with_reducible exact Below.refl _ _ | with_reducible apply Below.drew | (with_reducible refine below_drewN ?_ _) | (with_reducible refine Below.alloc ?_ (by (try simp) <;> omega) _) | (with_reducible refine Below.setCell ?_ (by (try simp) <;> omega) _))))
  go_upto_region 2 with fail
  have k5 := k3 (.cells #[.int .u64 (hi64 (P : Int)), .int .u64 (lo64 (P : Int)), .bool m] 101)
  have k6 := k4 #[.int .u64 (hi64 (P : Int)), .int .u64 (lo64 (P : Int)), .bool m] 101
  clear k1 k2 k3 k4
  obtain ⟨pb, hpb⟩ : ∃ pb, w3.heap.size = pb := ⟨_, rfl⟩
  generalize w3.alloc (.cells #[.int .u64 (hi64 (P : Int)), .int .u64 (lo64 (P : Int)), .bool m] 101) = w4 at *
  rw [hpb] at D3 ⊢
  have hcp : c.block < pb := by omega
  have hnc : pb ≠ c.block := by omega
  go_upto_region 3 with (refine (rsat_any c _ d _ k5 k6).mono ?_; rintro e w' ⟨rfl, rfl⟩)
  have c5 : (w4.setCell c (.bool (h || satH a || satH b || satH d))).cell? c = some (.bool (h || satH a || satH b || satH d)) := World.cell?_setCell_same _ _ _ k5
  have f5 : (w4.setCell c (.bool (h || satH a || satH b || satH d))).frozen? c = false := by simp [k6]
  have D5 := Lib.hid (D3.out.other (a := c) hnc (.bool (h || satH a || satH b || satH d)))
  have U5 := Lib.hid (Upd.set c (h || satH a || satH b || satH d) w4)
  have hs5 : w4.heap.size = (w4.setCell c (.bool (h || satH a || satH b || satH d))).heap.size := (setCell_size _ _ _).symm
  generalize w4.setCell c (.bool (h || satH a || satH b || satH d)) = w5 at *
  clear k5 k6 D3
  obtain ⟨⟨d0, d1, d2⟩, v0, v1, v2⟩ := D5.out.c
  go_upto_region 11 with fail
  have D6 := D5.out.set2 n
  have hwp : w.heap.size ≤ pb := by omega
  have B6 := Lib.hid (show Below w.heap.size w5 (w5.setCell ⟨pb, 2, none⟩ (.bool n)) from (Below.refl _ _).setCell hwp _)
  have k1 : (w5.setCell ⟨pb, 2, none⟩ (.bool n)).cell? c = some (.bool (h || satH a || satH b || satH d)) := (World.cell?_setCell_other _ _ _ _ (fun e => by rw [← e] at hcp; simp at hcp)).trans c5
  have k2 : (w5.setCell ⟨pb, 2, none⟩ (.bool n)).frozen? c = false := by simp [f5]
  have hs6 : w5.heap.size = (w5.setCell ⟨pb, 2, none⟩ (.bool n)).heap.size := (setCell_size _ _ _).symm
  clear D5 d0 d1 d2 v0 v1 v2 c5 f5
  generalize w5.setCell ⟨pb, 2, none⟩ (.bool n) = w6 at *
  have z6 := D6.lt
  obtain ⟨⟨d0, d1, d2⟩, _⟩ := D6.c
  have nc : ∀ o, c ≠ ⟨pb, o, none⟩ := fun o e => by rw [e] at hcp; simp at hcp
  refine wp_region_M (fun w' => w'.cell? ⟨pb, 0, none⟩ = some (.int .u64 (hi64 (P : Int))) ∧ w'.cell? ⟨pb, 1, none⟩ = some (.int .u64 (lo64 (P : Int))) ∧ w'.cell? ⟨pb, 2, none⟩ = some (.bool n)) 6 (by kernel_rfl) ?_ (fun hHeld => ?_)
  · exact ⟨d0, d1, d2⟩
  refine wpAnyM_take 0 (v := ?_) rfl (by kernel_rfl) (fun _ _ _ h => h) (Or.inl ⟨by rfl, ?_⟩) (by assumption) ?_
  rotate_left
  · (intro wx hSw; (try dsimp only at hSw); go_simp; (try with_reducible rfl))
  (try simp only [Act.put, nA, nB, nC])
  refine wpAnyM_take 1 (v := ?_) rfl (by kernel_rfl) (fun _ _ _ h => h) (Or.inl ⟨by rfl, ?_⟩) (by assumption) ?_
  rotate_left
  · (intro wx hSw; (try dsimp only at hSw); go_simp; (try with_reducible rfl))
  (try simp only [Act.put, nA, nB, nC])
  refine wpAnyM_take 2 (v := ?_) rfl (by kernel_rfl) (fun _ _ _ h => h) (Or.inl ⟨by rfl, ?_⟩) (by assumption) ?_
  rotate_left
  · (intro wx hSw; (try dsimp only at hSw); go_simp; (try with_reducible rfl))
  (try simp only [Act.put, nA, nB, nC])
  refine wpAnyM_oneS 3 rfl (by kernel_rfl) (fun K hK => ?_)
  go_simp
  (refine (SZ.out _).mono ?_; rintro e w' ⟨rfl, rfl⟩)
  (try dsimp only)
  (try simp only [Act.put, nA, nB, nC])
  clear hHeld
  refine hK.out _ _ ?_ (fun hHeld => ?_)
  · exact ⟨d0, d1, d2⟩
  clear hK K
  (try simp only [Act.put, nA, nB, nC])
  refine wpAnyM_oneS 4 rfl (by kernel_rfl) (fun K hK => ?_)
  go_simp
  (refine (DV.out _).mono ?_; rintro e w7 ⟨rfl, hb7⟩)
  (try dsimp only)
  (try simp only [Act.put, nA, nB, nC])
  clear hHeld
  refine hK.out _ _ ?_ (fun hHeld => ?_)
  · exact ⟨(hb7.cell z6).trans d0, (hb7.cell z6).trans d1, (hb7.cell z6).trans d2⟩
  clear hK K
  (try simp only [Act.put, nA, nB, nC])
  refine wpAnyM_oneS 5 rfl (by kernel_rfl) (fun K hK => ?_)
  go_simp
  (refine (rend2_any c _ (dvM P Z) n _ ((hb7.cell (by (try simp); omega)).trans (by simpa using k1)) ((hb7.frozen (by (try simp); omega)).trans (by simpa using k2))).mono ?_; rintro e w8 ⟨rfl, hu8⟩)
  (try dsimp only)
  (try simp only [Act.put, nA, nB, nC])
  clear hHeld
  refine hK.out _ _ ?_ (fun hHeld => ?_)
  · have z7 : pb < w7.heap.size := Nat.lt_of_lt_of_le z6 hb7.size; exact ⟨(hu8.cell z7 (nc 0)).trans ((hb7.cell z6).trans d0), (hu8.cell z7 (nc 1)).trans ((hb7.cell z6).trans d1), (hu8.cell z7 (nc 2)).trans ((hb7.cell z6).trans d2)⟩
  clear hK K
  (try simp only [Act.put, nA, nB, nC])
  refine wpAnyM_one 6 rfl (by kernel_rfl) (fun K hK => ?_)
  go_simp
  refine hK.out _ _ (.inl (by kernel_rfl)) (fun _ => ?_)
  clear hK K
  (try simp only [Act.put, nA, nB, nC])
  refine wpAnyM_done (by kernel_rfl) ?_ _
  go_wp2_with fail
  go_ret
  refine ⟨rfl, ?_⟩
  exact ((HW.out.trans (Upd.after HB3.out (Upd.after B3.out U5.out))).then' B6.out).trans (Upd.after (Below.drew (Below.refl _ _)) (Upd.after hb7 hu8))
set_option maxHeartbeats 4000000 in
theorem rmd0 (c : Addr) (h : Bool) (a b d x y v : Int) (P : Nat) (m : Bool) (w : World) (hc : w.cell? c = some (.bool h)) (hf : w.frozen? c = false)
    (hx : satV a = x) (hy : satV b = y) (hz : satV d = 0) (hv : (if P = 0 then 0 else if m = true then -1152921504606846976 else 1152921504606846976) = v)
    (hm : ∀ w, Calls Try.prog 65 #[.int .i64 x, .int .i64 y] w fun e w' => e = .returned (.agg #[.int .u64 (hi64 (P : Int)), .int .u64 (lo64 (P : Int)), .bool m]) ∧ Below w.heap.size w w') :
    Calls Try.prog 45 #[.pointer (some c), .int .i64 a, .int .i64 b, .int .i64 d] w fun e w' => e = .returned (.int .i64 v) ∧ Upd c true w w' := by
  have hcb := World.block_lt_of_cell? w c hc
  have HM := Lib.hid hm
  have c1 : (w.setCell c (.bool (h || satH a))).cell? c = some (.bool (h || satH a)) := World.cell?_setCell_same _ _ _ hc
  have c2 : ((w.setCell c (.bool (h || satH a))).setCell c (.bool (h || satH a || satH b))).cell? c = some (.bool (h || satH a || satH b)) := World.cell?_setCell_same _ _ _ c1
  have C2 := Lib.hid c2
  clear c2 hm
  have hcase : (P = 0 ∧ (hi64 (P : Int) == 0) = true ∧ (lo64 (P : Int) == 0) = true) ∨ (P ≠ 0 ∧ (hi64 (P : Int) == 0) = false) ∨ (P ≠ 0 ∧ (hi64 (P : Int) == 0) = true ∧ (lo64 (P : Int) == 0) = false) := by
    simp only [beq_iff_eq, beq_eq_false_iff_ne, ne_eq]
    unfold hi64 lo64
    omega
  have HV := Lib.hid hv
  clear hv
  cases m
  · rcases hcase with ⟨g0, g1, g2⟩ | ⟨g0, g1⟩ | ⟨g0, g1, g2⟩
    all_goals
      have HG := Lib.hid g0
      clear g0
      go_enter Try.func45, Try.ntmps45
      go_wp2_with fail
      refine (rsat_any c h a _ hc hf).mono ?_; rintro e w' ⟨rfl, rfl⟩
      go_wp2_with fail
      refine (rsat_any c _ b _ c1 (by simp [hf])).mono ?_; rintro e w' ⟨rfl, rfl⟩
      have HW := Lib.hid (Upd.trans (Upd.set c (h || satH a) w) (Upd.set c (h || satH a || satH b) _))
      have F2 : ((w.setCell c (.bool (h || satH a))).setCell c (.bool (h || satH a || satH b))).frozen? c = false := by simp [hf]
      have Z2 := Upd.size HW.out
      obtain ⟨w2, hw2⟩ : ∃ w2, (w.setCell c (.bool (h || satH a))).setCell c (.bool (h || satH a || satH b)) = w2 := ⟨_, rfl⟩
      rw [hw2] at HW C2 F2 Z2 ⊢
      clear hw2 c1 hc hf
      go_wp2_with fail
      refine (HM.out _).mono ?_; rintro e w3 ⟨rfl, hb3⟩
      have k1 : w3.cell? c = some (.bool (h || satH a || satH b)) := (hb3.cell (by omega)).trans C2.out
      have k2 : w3.frozen? c = false := (hb3.frozen (by omega)).trans F2
      have hs3 := hb3.size
      have HB3 := Lib.hid hb3
      clear hb3 C2 F2
      have k3 : ∀ o, (w3.alloc o).cell? c = some (.bool (h || satH a || satH b)) := fun o => by rw [World.cell?_alloc_lt _ _ _ (by omega)]; exact k1
      have k4 : ∀ cs t, (w3.alloc (.cells cs t)).frozen? c = false := fun cs t => by rw [frozen?_alloc_cells]; exact k2
      have D3 := Lib.hid (Wid.new w3 (P : Int) false)
      have B3 : Hid (Below w3.heap.size w3 (w3.alloc (.cells #[.int .u64 (hi64 (P : Int)), .int .u64 (lo64 (P : Int)), .bool false] 101))) := Lib.hid (by (repeat (first | with_reducible exact Below.refl _ _ | with_reducible apply Below.drew | (with_reducible refine below_drewN ?_ _) | (with_reducible refine Below.alloc ?_ (by (try simp) <;> omega) _) | (with_reducible refine Below.setCell ?_ (by (try simp) <;> omega) _))))
      go_upto_region 2 with fail
      have k5 := k3 (.cells #[.int .u64 (hi64 (P : Int)), .int .u64 (lo64 (P : Int)), .bool false] 101)
      have k6 := k4 #[.int .u64 (hi64 (P : Int)), .int .u64 (lo64 (P : Int)), .bool false] 101
      clear k1 k2 k3 k4
      obtain ⟨pb, hpb⟩ : ∃ pb, w3.heap.size = pb := ⟨_, rfl⟩
      generalize w3.alloc (.cells #[.int .u64 (hi64 (P : Int)), .int .u64 (lo64 (P : Int)), .bool false] 101) = w4 at *
      rw [hpb] at D3 ⊢
      have hcp : c.block < pb := by omega
      have hnc : pb ≠ c.block := by omega
      go_upto_region 3 with (refine (rsat_any c _ d _ k5 k6).mono ?_; rintro e w' ⟨rfl, rfl⟩)
      have c5 : (w4.setCell c (.bool (h || satH a || satH b || satH d))).cell? c = some (.bool (h || satH a || satH b || satH d)) := World.cell?_setCell_same _ _ _ k5
      have f5 : (w4.setCell c (.bool (h || satH a || satH b || satH d))).frozen? c = false := by simp [k6]
      have c6 := Lib.hid (Upd.set c true (w4.setCell c (.bool (h || satH a || satH b || satH d))))
      have D5 := Lib.hid (D3.out.other (a := c) hnc (.bool (h || satH a || satH b || satH d)))
      have U5 := Lib.hid (Upd.set c (h || satH a || satH b || satH d) w4)
      have hs5 : w4.heap.size = (w4.setCell c (.bool (h || satH a || satH b || satH d))).heap.size := (setCell_size _ _ _).symm
      generalize w4.setCell c (.bool (h || satH a || satH b || satH d)) = w5 at *
      clear k5 k6 D3
      obtain ⟨⟨d0, d1, d2⟩, v0, v1, v2⟩ := D5.out.c
      have D7 := D5.out.other (a := c) hnc (.bool true)
      go_upto_region 5 with fail
      have c7 := c6.out
      clear D5 d0 d1 d2 v0 v1 v2 c6
      generalize w5.setCell c (.bool true) = w6 at *
      have C7 := Lib.hid c7
      obtain ⟨⟨d0, d1, d2⟩, v0, v1, v2⟩ := D7.c
      clear c7
      go_wp2_with fail
      go_ret
      refine ⟨retI ?_, ?_⟩
      · have := HV.out
        first | (rw [if_pos HG.out] at this; exact this) | (rw [if_neg HG.out] at this; simpa using this)
      · exact (HW.out.trans (Upd.after HB3.out (Upd.after B3.out U5.out))).trans C7.out
  · rcases hcase with ⟨g0, g1, g2⟩ | ⟨g0, g1⟩ | ⟨g0, g1, g2⟩
    all_goals
      have HG := Lib.hid g0
      clear g0
      go_enter Try.func45, Try.ntmps45
      go_wp2_with fail
      refine (rsat_any c h a _ hc hf).mono ?_; rintro e w' ⟨rfl, rfl⟩
      go_wp2_with fail
      refine (rsat_any c _ b _ c1 (by simp [hf])).mono ?_; rintro e w' ⟨rfl, rfl⟩
      have HW := Lib.hid (Upd.trans (Upd.set c (h || satH a) w) (Upd.set c (h || satH a || satH b) _))
      have F2 : ((w.setCell c (.bool (h || satH a))).setCell c (.bool (h || satH a || satH b))).frozen? c = false := by simp [hf]
      have Z2 := Upd.size HW.out
      obtain ⟨w2, hw2⟩ : ∃ w2, (w.setCell c (.bool (h || satH a))).setCell c (.bool (h || satH a || satH b)) = w2 := ⟨_, rfl⟩
      rw [hw2] at HW C2 F2 Z2 ⊢
      clear hw2 c1 hc hf
      go_wp2_with fail
      refine (HM.out _).mono ?_; rintro e w3 ⟨rfl, hb3⟩
      have k1 : w3.cell? c = some (.bool (h || satH a || satH b)) := (hb3.cell (by omega)).trans C2.out
      have k2 : w3.frozen? c = false := (hb3.frozen (by omega)).trans F2
      have hs3 := hb3.size
      have HB3 := Lib.hid hb3
      clear hb3 C2 F2
      have k3 : ∀ o, (w3.alloc o).cell? c = some (.bool (h || satH a || satH b)) := fun o => by rw [World.cell?_alloc_lt _ _ _ (by omega)]; exact k1
      have k4 : ∀ cs t, (w3.alloc (.cells cs t)).frozen? c = false := fun cs t => by rw [frozen?_alloc_cells]; exact k2
      have D3 := Lib.hid (Wid.new w3 (P : Int) true)
      have B3 : Hid (Below w3.heap.size w3 (w3.alloc (.cells #[.int .u64 (hi64 (P : Int)), .int .u64 (lo64 (P : Int)), .bool true] 101))) := Lib.hid (by (repeat (first | with_reducible exact Below.refl _ _ | with_reducible apply Below.drew | (with_reducible refine below_drewN ?_ _) | (with_reducible refine Below.alloc ?_ (by (try simp) <;> omega) _) | (with_reducible refine Below.setCell ?_ (by (try simp) <;> omega) _))))
      go_upto_region 2 with fail
      have k5 := k3 (.cells #[.int .u64 (hi64 (P : Int)), .int .u64 (lo64 (P : Int)), .bool true] 101)
      have k6 := k4 #[.int .u64 (hi64 (P : Int)), .int .u64 (lo64 (P : Int)), .bool true] 101
      clear k1 k2 k3 k4
      obtain ⟨pb, hpb⟩ : ∃ pb, w3.heap.size = pb := ⟨_, rfl⟩
      generalize w3.alloc (.cells #[.int .u64 (hi64 (P : Int)), .int .u64 (lo64 (P : Int)), .bool true] 101) = w4 at *
      rw [hpb] at D3 ⊢
      have hcp : c.block < pb := by omega
      have hnc : pb ≠ c.block := by omega
      go_upto_region 3 with (refine (rsat_any c _ d _ k5 k6).mono ?_; rintro e w' ⟨rfl, rfl⟩)
      have c5 : (w4.setCell c (.bool (h || satH a || satH b || satH d))).cell? c = some (.bool (h || satH a || satH b || satH d)) := World.cell?_setCell_same _ _ _ k5
      have f5 : (w4.setCell c (.bool (h || satH a || satH b || satH d))).frozen? c = false := by simp [k6]
      have c6 := Lib.hid (Upd.set c true (w4.setCell c (.bool (h || satH a || satH b || satH d))))
      have D5 := Lib.hid (D3.out.other (a := c) hnc (.bool (h || satH a || satH b || satH d)))
      have U5 := Lib.hid (Upd.set c (h || satH a || satH b || satH d) w4)
      have hs5 : w4.heap.size = (w4.setCell c (.bool (h || satH a || satH b || satH d))).heap.size := (setCell_size _ _ _).symm
      generalize w4.setCell c (.bool (h || satH a || satH b || satH d)) = w5 at *
      clear k5 k6 D3
      obtain ⟨⟨d0, d1, d2⟩, v0, v1, v2⟩ := D5.out.c
      have D7 := D5.out.other (a := c) hnc (.bool true)
      go_upto_region 5 with fail
      have c7 := c6.out
      clear D5 d0 d1 d2 v0 v1 v2 c6
      generalize w5.setCell c (.bool true) = w6 at *
      have C7 := Lib.hid c7
      obtain ⟨⟨d0, d1, d2⟩, v0, v1, v2⟩ := D7.c
      clear c7
      go_wp2_with fail
      go_ret
      refine ⟨retI ?_, ?_⟩
      · have := HV.out
        first | (rw [if_pos HG.out] at this; exact this) | (rw [if_neg HG.out] at this; simpa using this)
      · exact (HW.out.trans (Upd.after HB3.out (Upd.after B3.out U5.out))).trans C7.out
theorem rmd_any (c : Addr) (h : Bool) (a b d : Int) (w : World) (hc : w.cell? c = some (.bool h)) (hf : w.frozen? c = false) :
    Calls Try.prog 45 #[.pointer (some c), .int .i64 a, .int .i64 b, .int .i64 d] w fun e w' => e = .returned (.int .i64 (mdivV a b d)) ∧ Upd c (h || mdivH a b d) w w' := by
  have hp := abs_prod_bd a b
  have ba := satV_bd a
  have bb := satV_bd b
  obtain ⟨P, hP⟩ : ∃ P, (satV a).natAbs * (satV b).natAbs = P := ⟨_, rfl⟩
  have hs := sg2_mul _ _ P hP
  have hm : ∀ w, Calls Try.prog 65 #[.int .i64 (satV a), .int .i64 (satV b)] w fun e w' => e = .returned (.agg #[.int .u64 (hi64 (P : Int)), .int .u64 (lo64 (P : Int)), .bool (sg2 (satV a) (satV b))]) ∧ Below w.heap.size w w' := fun w => rmul_any _ _ _ w ba.1 ba.2 bb.1 bb.2 (by rw [← hP]; simp)
  have hPa : P = (satV a * satV b).natAbs := by rw [Int.natAbs_mul, hP]
  by_cases hz : satV d = 0
  · have e2 : (h || mdivH a b d) = true := by simp [mdivH, byH, hz]
    rw [e2]
    refine rmd0 c h a b d _ _ _ P (sg2 (satV a) (satV b)) w hc hf rfl rfl hz ?_ hm
    unfold mdivV byV
    rw [if_pos hz]
    generalize satV a * satV b = X at *
    generalize sg2 (satV a) (satV b) = g at *
    subst hPa
    by_cases h0 : X = 0
    · subst h0; rfl
    · have h1 : ¬ X.natAbs = 0 := by omega
      rw [if_neg h1, if_neg h0]
      cases g
      · unfold sv at hs; simp at hs
        rw [if_neg (by simp), if_neg (by omega)]
      · unfold sv at hs; simp at hs
        rw [if_pos rfl, if_pos (by omega)]
  · have k := rdiv_sg (satV a * satV b) (satV d) hz
    rw [← hPa] at k
    have hsg : ∀ N : Nat, sv (sg2 (satV a * satV b) (satV d)) (dvM P N) = sv (!(sg2 (satV a) (satV b)) == decide (satV d < 0)) (dvM P N) ∨ P = 0 := by
      intro N
      by_cases h0 : P = 0
      · exact .inr h0
      · refine .inl ?_
        congr 1
        rw [← sg2_ne]
        have : decide (satV a * satV b < 0) = sg2 (satV a) (satV b) := by
          cases hsg : sg2 (satV a) (satV b)
          · rw [hsg] at hs; unfold sv at hs; simp at hs
            simp; omega
          · rw [hsg] at hs; unfold sv at hs; simp at hs
            simp; omega
        rw [this]
    have k2 : rdiv (satV a * satV b) (satV d) = sv (!(sg2 (satV a) (satV b)) == decide (satV d < 0)) (dvM P (satV d).natAbs) := by
      rw [k]
      rcases hsg (satV d).natAbs with h1 | h1
      · exact h1
      · subst h1
        have : dvM 0 (satV d).natAbs = 0 := by unfold dvM; rw [Nat.zero_mod, Nat.zero_div, if_neg (by omega)]
        rw [this, sv_0, sv_0]
    have e1 : mdivV a b d = satV (sv (!(sg2 (satV a) (satV b)) == decide (satV d < 0)) (dvM P (satV d).natAbs)) := by
      rw [← k2]; unfold mdivV byV; rw [if_neg hz]
    have e2 : (h || mdivH a b d) = (h || satH a || satH b || satH d || satH (sv (!(sg2 (satV a) (satV b)) == decide (satV d < 0)) (dvM P (satV d).natAbs))) := by
      rw [← k2]; unfold mdivH byH
      rw [show decide (satV d = 0) = false by simpa using hz]
      simp only [Bool.false_or, Bool.or_assoc]
    rw [e1, e2]
    rw [hP] at hp
    exact rmdS c h a b d _ _ _ P _ _ _ _ w hc hf rfl rfl rfl rfl hp rfl rfl (by simpa using hz) hm
end Go.Proofs.Ytgpnopiinogkmaa
/- Contracts of law 16's own functions: still, awake; of the reference's Seconds. -/
namespace Go.Proofs.Ytgpnopiinogkmaa
open Go.RowKit
set_option maxRecDepth 100000
theorem below_of_upd {c : Addr} {h : Bool} {w w1 w2 : World} (b : Below w.heap.size w w1) (u : Upd c h w1 w2) (hc : w.heap.size ≤ c.block) : Below w.heap.size w w2 :=
  (b.setCell hc (.bool h)).trans (Below.mono u b.size)
theorem rsec_any (c : Addr) (h : Bool) (us : Int) (w : World) (hc : w.cell? c = some (.bool h)) (hf : w.frozen? c = false) (h0 : c.off = 0) (hs : c.spot = none) :
    Calls Try.prog 20 #[.pointer (some c), .int .i64 us] w fun e w' => e = .returned (.int .i64 (secV us)) ∧ Upd c (h || secH us) w w' := by
  obtain ⟨cb, co, cs⟩ := c
  simp only at h0 hs
  subst h0 hs
  have MC := Lib.hid (rmd_any ⟨cb, 0, none⟩ h us 1073741824 1000000 w hc hf)
  clear hc hf
  go_enter Try.func20, Try.ntmps20
  go_wp2_with (go_at_call 45; (refine MC.out.mono ?_); rintro e w1 ⟨rfl, hu1⟩)
  go_ret
  exact ⟨rfl, hu1⟩
theorem zp8 : (#[.int .i64 0, .int .i64 0, .int .i64 0, .int .i64 0, .int .i64 0, .int .i64 0, .int .i64 0, .int .i64 0] : Array Value) = arrv 8 (fun _ => 0) := by kernel_rfl
open Go in
theorem run_build_a3 {o : Oper} {ev : Operand → Value} {w : World} (x y z : Operand) (ho : o.op = .build 31 #[(0, x), (1, y), (2, z)]) {a b c : Int} (hx : ev x = .int .i64 a) (hy : ev y = .int .i64 b) (hw : ev z = .int .i64 c) :
    (execOp ev o).run Try.prog w = .ok (.value (.agg (arrv 3 (vc3 a b c)))) w := by
  unfold execOp
  simp only [ho, List.map_toArray, List.map_cons, List.map_nil, hx, hy, hw]
  kernel_rfl
open Go in
/-- A sample of its time and its velocities gained. -/
theorem run_build_imu {o : Oper} {ev : Operand → Value} {w : World} (x y : Operand) (ho : o.op = .build 33 #[(1, x), (3, y)]) {a : Int} {F : Nat → Int} (hx : ev x = .int .i64 a) (hy : ev y = .agg (arrv 3 F)) :
    (execOp ev o).run Try.prog w = .ok (.value (.agg (arrv 8 (fun i => if i = 1 then a else if 5 ≤ i then F (i - 5) else 0)))) w := by
  unfold execOp
  simp only [ho, List.map_toArray, List.map_cons, List.map_nil, hx, hy]
  kernel_rfl
set_option maxHeartbeats 4000000 in
theorem still_any (us : Int) (w : World) : Calls Try.prog 6 #[.int .i64 us] w fun e w' => e = .returned (.agg (arrv 8 (stlF us))) ∧ Below w.heap.size w w' := by
  have B0 := Lib.hid (show Below w.heap.size w ((w.alloc (.cells #[.int .i64 0, .int .i64 0, .int .i64 0, .int .i64 0, .int .i64 0, .int .i64 0, .int .i64 0, .int .i64 0] 33)).alloc (.cells #[.bool false] 54)) by (repeat (first | with_reducible exact Below.refl _ _ | with_reducible apply Below.drew | (with_reducible refine below_drewN ?_ _) | (with_reducible refine Below.alloc ?_ (by (try simp) <;> omega) _) | (with_reducible refine Below.setCell ?_ (by (try simp) <;> omega) _))))
  have R0 := Lib.hid (show Blk ((w.alloc (.cells #[.int .i64 0, .int .i64 0, .int .i64 0, .int .i64 0, .int .i64 0, .int .i64 0, .int .i64 0, .int .i64 0] 33)).alloc (.cells #[.bool false] 54)) w.heap.size 33 8 (fun _ => 0) by rw [zp8]; exact (Blk.new w _ 8 _).alloc _)
  have C0 := Lib.hid (show ((w.alloc (.cells #[.int .i64 0, .int .i64 0, .int .i64 0, .int .i64 0, .int .i64 0, .int .i64 0, .int .i64 0, .int .i64 0] 33)).alloc (.cells #[.bool false] 54)).cell? ⟨w.heap.size + 1, 0, none⟩ = some (.bool false) ∧ ((w.alloc (.cells #[.int .i64 0, .int .i64 0, .int .i64 0, .int .i64 0, .int .i64 0, .int .i64 0, .int .i64 0, .int .i64 0] 33)).alloc (.cells #[.bool false] 54)).frozen? ⟨w.heap.size + 1, 0, none⟩ = false from ⟨by simp [go_sem], by simp [go_sem]⟩)
  have MB : -1152921504606846976 ≤ mulV 10529810258 (secV us) 30 ∧ mulV 10529810258 (secV us) 30 ≤ 1152921504606846976 := by
    unfold mulV; rw [if_neg (by decide)]; exact satV_bd _
  have EF := Lib.hid (show (fun i => if i = 1 then us else if 5 ≤ i then vc3 0 0 (-(mulV 10529810258 (secV us) 30)) (i - 5) else 0) = (fun i => if i = 1 then us else if 5 ≤ i then vc3 0 0 (-(mulV 10529810258 (secV us) 30)) (i - 5) else 0) ∧ arrv 8 (fun i => if i = 1 then us else if 5 ≤ i then vc3 0 0 (-(mulV 10529810258 (secV us) 30)) (i - 5) else 0) = arrv 8 (stlF us) from ⟨rfl, arrv_congr fun i hi => by
    unfold stlF vc3
    by_cases h1 : i = 1
    · rw [if_pos h1, if_pos h1]
    · rw [if_neg h1, if_neg h1]
      by_cases h7 : i = 7
      · subst h7; rfl
      · rw [if_neg h7]
        by_cases h5 : 5 ≤ i
        · obtain rfl | rfl : i = 5 ∨ i = 6 := by omega
          all_goals rfl
        · rw [if_neg h5]⟩)
  have SC := Lib.hid (fun (x : World) (k : x.cell? ⟨w.heap.size + 1, 0, none⟩ = some (.bool false)) (f : x.frozen? ⟨w.heap.size + 1, 0, none⟩ = false) => rsec_any ⟨w.heap.size + 1, 0, none⟩ false us x k f rfl rfl)
  obtain ⟨dt, hdt⟩ : ∃ x, secV us = x := ⟨_, rfl⟩
  obtain ⟨G, hG⟩ : ∃ x, mulV 10529810258 dt 30 = x := ⟨_, rfl⟩
  rw [hdt, hG] at MB EF
  rw [hdt] at SC
  have HG := Lib.hid hG
  have en : IntKind.i64.wrap (-G) = -G := IntWalk.i64_in _ (by omega)
  clear hdt hG MB
  go_enter Try.func6, Try.ntmps6
  go_upto_region 2 with fail
  generalize (w.alloc (.cells #[.int .i64 0, .int .i64 0, .int .i64 0, .int .i64 0, .int .i64 0, .int .i64 0, .int .i64 0, .int .i64 0] 33)).alloc (.cells #[.bool false] 54) = W0 at *
  refine wp_region_M (fun _ => True) 11 (by kernel_rfl) ?_ (fun hHeld => ?_)
  · trivial
  refine wpAnyM_take 0 (v := ?_) rfl (by kernel_rfl) (fun _ _ _ h => h) (Or.inl ⟨by rfl, ?_⟩) (by assumption) ?_
  rotate_left
  · (intro wx hSw; (try dsimp only at hSw); go_simp; (try with_reducible rfl))
  (try simp only [Act.put, nA, nB, nC])
  refine wpAnyM_take 1 (v := ?_) rfl (by kernel_rfl) (fun _ _ _ h => h) (Or.inl ⟨by rfl, ?_⟩) (by assumption) ?_
  rotate_left
  · (intro wx hSw; (try dsimp only at hSw); go_simp; (try with_reducible rfl))
  (try simp only [Act.put, nA, nB, nC])
  refine wpAnyM_take 2 (v := ?_) rfl (by kernel_rfl) (fun _ _ _ h => h) (Or.inl ⟨by rfl, ?_⟩) (by assumption) ?_
  rotate_left
  · (intro wx hSw; (try dsimp only at hSw); go_simp; (try with_reducible rfl))
  (try simp only [Act.put, nA, nB, nC])
  refine wpAnyM_take 3 (v := ?_) rfl (by kernel_rfl) (fun _ _ _ h => h) (Or.inl ⟨by rfl, ?_⟩) (by assumption) ?_
  rotate_left
  · (intro wx hSw; (try dsimp only at hSw); go_simp; (try with_reducible rfl))
  (try simp only [Act.put, nA, nB, nC])
  refine wpAnyM_take 4 (v := ?_) rfl (by kernel_rfl) (fun _ _ _ h => h) (Or.inl ⟨by rfl, ?_⟩) (by assumption) ?_
  rotate_left
  · (intro wx hSw; (try dsimp only at hSw); go_simp; (try with_reducible rfl))
  (try simp only [Act.put, nA, nB, nC])
  refine wpAnyM_take 5 (v := ?_) rfl (by kernel_rfl) (fun _ _ _ h => h) (Or.inl ⟨by rfl, ?_⟩) (by assumption) ?_
  rotate_left
  · (intro wx hSw; (try dsimp only at hSw); go_simp; (try with_reducible rfl))
  (try simp only [Act.put, nA, nB, nC])
  refine wpAnyM_oneS 6 rfl (by kernel_rfl) (fun K hK => ?_)
  go_simp
  (refine (SC.out W0.drew C0.out.1 C0.out.2).mono ?_); rintro e w1 ⟨rfl, hu⟩; have B1 := Lib.hid (below_of_upd B0.out.drew hu (by simp)); have R1 := Lib.hid (R0.out.drew.upd hu (by simp)); have c1 := hu.cellc C0.out.1; have f1 := (hu.frozen (World.block_lt_of_cell? W0.drew _ C0.out.1)).trans C0.out.2; clear hu
  (try dsimp only)
  (try simp only [Act.put, nA, nB, nC])
  clear hHeld
  refine hK.out _ _ ?_ (fun hHeld => ?_)
  · trivial
  clear hK K
  (try simp only [Act.put, nA, nB, nC])
  refine wpAnyM_oneS 7 rfl (by kernel_rfl) (fun K hK => ?_)
  go_simp
  (refine (rm_any ⟨w.heap.size + 1, 0, none⟩ _ 10529810258 dt _ c1 f1).mono ?_); (rw [HG.out]); rintro e w2 ⟨rfl, hu⟩; have B2 := Lib.hid (below_of_upd B1.out hu (by simp)); have R2 := Lib.hid (R1.out.upd hu (by simp)); clear hu
  (try dsimp only)
  (try simp only [Act.put, nA, nB, nC])
  clear hHeld
  refine hK.out _ _ ?_ (fun hHeld => ?_)
  · trivial
  clear hK K
  (try simp only [Act.put, nA, nB, nC])
  refine wpAnyM_take 8 (v := ?_) rfl (by kernel_rfl) (fun _ _ _ h => h) (Or.inl ⟨by rfl, ?_⟩) (by assumption) ?_
  rotate_left
  · (intro wx hSw; (try dsimp only at hSw); go_simp; (try with_reducible rfl))
  (try simp only [Act.put, nA, nB, nC])
  refine wpAnyM_take 9 (v := ?_) rfl (by kernel_rfl) (fun _ _ _ h => h) (Or.inl ⟨by rfl, ?_⟩) (by assumption) ?_
  rotate_left
  · (intro wx hSw; refine Eq.trans (run_build_a3 (.const (.int .i64 0)) (.const (.int .i64 0)) (.tmp 14) (by rfl) (by rfl) (by rfl) (by rfl)) ?_; with_reducible rfl)
  (try simp only [Act.put, nA, nB, nC])
  refine wpAnyM_take 10 (v := ?_) rfl (by kernel_rfl) (fun _ _ _ h => h) (Or.inl ⟨by rfl, ?_⟩) (by assumption) ?_
  rotate_left
  · (intro wx hSw; refine Eq.trans (run_build_imu (.tmp 6) (.tmp 15) (by rfl) (by rfl) (by rfl)) ?_; rw [EF.out.2])
  (try simp only [Act.put, nA, nB, nC])
  refine wpAnyM_one 11 rfl (by kernel_rfl) (fun K hK => ?_)
  go_simp; rw [if_pos (arrv_size _ _), run_storeCells_row _ R2.out]; go_simp
  refine hK.out _ _ (.inl (by kernel_rfl)) (fun _ => ?_)
  clear hK K
  (try simp only [Act.put, nA, nB, nC])
  refine wpAnyM_done (by kernel_rfl) ?_ _
  have r1 := R2.out.setRow (stlF us)
  have B3 : Below w.heap.size w (w2.setRow w.heap.size (arrv 8 (stlF us))) := below_row B2.out (Nat.le_refl _) _
  generalize w2.setRow w.heap.size (arrv 8 (stlF us)) = W3 at *
  go_wp2_with fail
  refine bodyPost_ret (results_cell_row Try.results6 _ _ w.heap.size 33 (arrv 8 (stlF us)) (0, 0) _ rfl r1 Try.underlying33 rfl (iimu.trans (by rw [arrv_size]))) rfl ⟨rfl, B3⟩
end Go.Proofs.Ytgpnopiinogkmaa
