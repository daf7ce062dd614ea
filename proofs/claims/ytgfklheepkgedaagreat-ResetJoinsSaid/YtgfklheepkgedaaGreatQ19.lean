/- Contracts of the program's functions and plain laws, part 19: they hold for all arguments. -/
import Derived.Test.YtgfklheepkgedaaGreatQ18
import Derived.Test.YtgfklheepkgedaaGreatQ08
import Derived.Test.YtgfklheepkgedaaGreatQ04
import Derived.Test.YtgfklheepkgedaaGreatQ03
import Derived.Test.YtgfklheepkgedaaGreatQ05
/- Contracts of the reference's scalars (6): divided. -/
namespace Go.Proofs.YtgfklheepkgedaaGreat
open Go.RowKit
set_option maxRecDepth 100000
theorem Wid.set0 {w : World} {b : Nat} {M N : Int} {m : Bool} (h : Wid w b M m) (hl : lo64 M = lo64 N) : Wid (w.setCell ⟨b, 0, none⟩ (.int .u64 (hi64 N))) b N m := by
  have := heap_setCell_same w b 0 _ _ (.int .u64 (hi64 N)) h
  rw [hl] at this
  exact this
theorem Wid.set1 {w : World} {b : Nat} {M N : Int} {m : Bool} (h : Wid w b M m) (hl : hi64 M = hi64 N) : Wid (w.setCell ⟨b, 1, none⟩ (.int .u64 (lo64 N))) b N m := by
  have := heap_setCell_same w b 1 _ _ (.int .u64 (lo64 N)) h
  rw [hl] at this
  exact this
theorem and63 : ∀ j, j < 128 → bits .and .i64 ((j : Nat) : Int) 63 = ((j % 64 : Nat) : Int) := by decide +kernel
theorem pow_wrap (s : Nat) (hs : s < 64) : IntKind.u64.wrap ((2 : Int) ^ s) = 2 ^ s := by
  have h : 2 ^ s < 18446744073709551616 := by rw [show 18446744073709551616 = 2 ^ 64 from rfl]; exact Nat.pow_lt_pow_right (by decide) hs
  rw [show (2 : Int) ^ s = ((2 ^ s : Nat) : Int) by simp]
  generalize 2 ^ s = x at *
  rw [IntKind.wrap_u64]
  omega
/-- What a round of 'divided' keeps. -/
structure DvR (M Q : Nat) (m : Bool) (w wr : World) : Prop where
  below : Below w.heap.size w wr
  a : Wid wr w.heap.size M m
  q : Wid wr (w.heap.size + 1 + 1) Q m
  z : Wid wr (w.heap.size + 1) 0 false
set_option maxHeartbeats 8000000 in
theorem rdivided_any (M d : Nat) (m : Bool) (w : World) (hM : M < 340282366920938463463374607431768211456) (d0 : 0 < d) (d1 : d ≤ 1152921504606846976) :
    Calls Tryz.prog 122 #[.agg #[.int .u64 (hi64 (M : Int)), .int .u64 (lo64 (M : Int)), .bool m], .int .u64 (d : Int)] w fun e w' =>
      e = .returned (.agg #[.int .u64 (hi64 (dvM M d : Nat)), .int .u64 (lo64 (dvM M d : Nat)), .bool m]) ∧ Below w.heap.size w w' := by
  have HM := Lib.hid (And.intro hM (And.intro d0 d1))
  have R0 : Hid (DvR M (M / 2 ^ 128 / d * 2 ^ 128) m w (((w.alloc (.cells #[.int .u64 (hi64 (M : Int)), .int .u64 (lo64 (M : Int)), .bool m] 137)).alloc (.cells #[.int .u64 0, .int .u64 0, .bool false] 137)).alloc (.cells #[.int .u64 0, .int .u64 0, .bool m] 137))) := by
    refine Lib.hid ⟨by (repeat (first | with_reducible exact Below.refl _ _ | with_reducible apply Below.drew | (with_reducible refine below_drewN ?_ _) | (with_reducible refine Below.alloc ?_ (by (try simp) <;> omega) _) | (with_reducible refine Below.setCell ?_ (by (try simp) <;> omega) _))), ((Wid.new w (M : Int) m).alloc _).alloc _, ?_, ?_⟩
    · have e : M / 2 ^ 128 = 0 := Nat.div_eq_of_lt hM
      rw [e, Nat.zero_div, Nat.zero_mul]
      have h := Wid.new ((w.alloc (.cells #[.int .u64 (hi64 (M : Int)), .int .u64 (lo64 (M : Int)), .bool m] 137)).alloc (.cells #[.int .u64 0, .int .u64 0, .bool false] 137)) 0 m
      rw [show hi64 0 = 0 by decide, show lo64 0 = 0 by decide] at h
      simpa using h
    · have h := (Wid.new (w.alloc (.cells #[.int .u64 (hi64 (M : Int)), .int .u64 (lo64 (M : Int)), .bool m] 137)) 0 false).alloc (.cells #[.int .u64 0, .int .u64 0, .bool m] 137)
      rw [show hi64 0 = 0 by decide, show lo64 0 = 0 by decide] at h
      simpa using h
  have E0 : ((M / 2 ^ 128 % d : Nat) : Int) = 0 := by rw [Nat.div_eq_of_lt hM]; simp
  clear hM d0 d1
  go_enter Tryz.func122, Tryz.ntmps122
  go_upto_region 4 with fail
  generalize ((w.alloc (.cells #[.int .u64 (hi64 (M : Int)), .int .u64 (lo64 (M : Int)), .bool m] 137)).alloc (.cells #[.int .u64 0, .int .u64 0, .bool false] 137)).alloc (.cells #[.int .u64 0, .int .u64 0, .bool m] 137) = W0 at *
  go_wp2_with fail
  go_loopw [6, 7, 8] (fun v6 v7 v8 wr => ∃ (k : Nat) (i : Int), k ≤ 128 ∧ i = (k : Int) - 1 ∧ v7 = .int .i64 i ∧ v6 = .int .u64 ((M / 2 ^ k % d : Nat) : Int) ∧ Hid (DvR M (M / 2 ^ k / d * 2 ^ k) m w wr)) (fun _ v _ _ => (intOf v + 1).toNat)
  case atStart => exact ⟨128, 127, by omega, by omega, rfl, by rw [E0], R0⟩
  case round =>
    obtain ⟨k, i, hk, hi, rfl, rfl, R⟩ := hrel
    clear R0 E0
    cases k with
    | zero =>
      obtain rfl : i = -1 := by omega
      rw [Nat.pow_zero, Nat.div_one, Nat.mul_one] at R
      rw [Nat.pow_zero, Nat.div_one]
      obtain ⟨bw, ba, qa, zb⟩ := R.out
      obtain ⟨⟨u0, u1, u2⟩, v0, v1, v2⟩ := qa.c
      have rl := Nat.mod_lt M HM.out.2.1
      obtain ⟨r, hr⟩ : ∃ r, M % d = r := ⟨_, rfl⟩
      obtain ⟨q, hq⟩ : ∃ q, M / d = q := ⟨_, rfl⟩
      rw [hr] at rl ⊢
      rw [hq] at u0 u1 qa
      have hsz := qa.lt
      obtain ⟨⟨z0, z1, z2⟩, x0, x1, x2⟩ := zb.c
      rw [show hi64 0 = 0 by decide] at z0
      rw [show lo64 0 = 0 by decide] at z1
      have e1 : IntKind.u64.wrap ((d : Int) - (r : Int)) = ((d - r : Nat) : Int) := by have := HM.out.2; rw [IntKind.wrap_u64]; omega
      obtain ⟨u, hu⟩ : ∃ u, d - r = u := ⟨_, rfl⟩
      rw [hu] at e1
      have HD := Lib.hid (show dvM M d = if r ≥ u then q + 1 else q by unfold dvM; rw [hr, hq, hu])
      have hq2 : q + 1 < 340282366920938463463374607431768211456 ∨ d = 1 := by
        by_cases h1 : d = 1
        · exact .inr h1
        · have : q ≤ M / 2 := by rw [← hq]; exact Nat.div_le_div_left (by have := HM.out.2; omega) (by decide)
          have := HM.out.1
          omega
      have HQ2 := Lib.hid hq2
      have HM2 := Lib.hid HM.out.2
      clear hq hr hq2 HM hi
      by_cases hg : u ≤ r
      · have g1 : decide (u ≤ r) = true := by simpa using hg
        have AD := Lib.hid (fun w => radd_any q 1 m m w (by have := HQ2.out; have := HM2.out; omega))
        rw [show adM m m q 1 = q + 1 from by unfold adM; simp, show adS m m q 1 = m from by unfold adS; simp] at AD
        rw [show hi64 ((1 : Nat) : Int) = 0 from by decide, show lo64 ((1 : Nat) : Int) = 1 from by decide] at AD
        rw [if_pos hg] at HD
        go_wp2_with fail
        refine (AD.out _).mono ?_; rintro e w1 ⟨rfl, hb1⟩
        have q1 := qa.below hb1
        have o1 := zb.below hb1
        have B1 := Lib.hid (bw.trans (hb1.mono bw.size))
        have hsz1 := q1.lt
        clear u0 u1 u2 v0 v1 v2 z0 z1 z2 x0 x1 x2 hsz R bw ba qa zb AD hb1
        obtain ⟨⟨u0, u1, u2⟩, v0, v1, v2⟩ := q1.c
        obtain ⟨⟨z0, z1, z2⟩, x0, x1, x2⟩ := o1.c
        rw [show hi64 0 = 0 by decide] at z0
        rw [show lo64 0 = 0 by decide] at z1
        go_wp2_with fail
        refine bodyPost_ret (v := .agg #[.int .u64 (hi64 ((q + 1 : Nat) : Int)), .int .u64 (lo64 ((q + 1 : Nat) : Int)), .bool m]) (by simp [results, Tryz.results122, go_sem, *]) rfl ⟨?_, ?_⟩
        · rw [HD.out]
        · have bw := B1.out
          (repeat (first | exact bw | (refine Below.setCell ?_ (by (try simp) <;> omega) _)))
      · have g1 : decide (u ≤ r) = false := by simpa using hg
        rw [if_neg hg] at HD
        go_wp2_with fail
        refine bodyPost_ret (v := .agg #[.int .u64 (hi64 (q : Int)), .int .u64 (lo64 (q : Int)), .bool m]) (by simp [results, Tryz.results122, go_sem, *]) rfl ⟨?_, ?_⟩
        · rw [HD.out]
        · (repeat (first | exact bw | (refine Below.setCell ?_ (by (try simp) <;> omega) _)))
    | succ j =>
      obtain rfl : i = (j : Int) := by omega
      have g1 : decide (0 ≤ (j : Int)) = true := by simp
      obtain ⟨T, hT⟩ : ∃ T, M / 2 ^ j = T := ⟨_, rfl⟩
      obtain ⟨H, hH⟩ : ∃ H, M / 2 ^ (j + 1) = H := ⟨_, rfl⟩
      obtain ⟨r, hr⟩ : ∃ r, H % d = r := ⟨_, rfl⟩
      obtain ⟨q, hq⟩ : ∃ q, H / d = q := ⟨_, rfl⟩
      obtain ⟨b, hb⟩ : ∃ b, T % 2 = b := ⟨_, rfl⟩
      obtain ⟨b2, r1, y1, y2⟩ := dv_two T d b H r q HM.out.2.1 hb (by rw [← hT, ← half_pow, hH]) hr hq
      rw [hH, hq] at R
      rw [hH, hr]
      have W2 := Lib.hid HM.out.2
      have e2 : IntKind.u64.wrap ((r : Int) * 2) = (r : Int) * 2 := by have := W2.out; rw [IntKind.wrap_u64]; omega
      have e3 := or_one r b (by have := W2.out; omega) b2
      obtain ⟨t, ht⟩ : ∃ t, 2 * r + b = t := ⟨_, rfl⟩
      rw [ht] at e3 y1 y2
      have t2 : t < 2 * d := by omega
      have qb : q * 2 ^ (j + 1) ≤ M := by rw [← hq, ← hH]; exact Nat.le_trans (Nat.mul_le_mul_right _ (Nat.div_le_self _ _)) (Nat.div_mul_le_self _ _)
      obtain ⟨Q, hQ⟩ : ∃ Q, q * 2 ^ (j + 1) = Q := ⟨_, rfl⟩
      rw [hQ] at R qb
      have HQ := Lib.hid hQ
      clear hQ
      obtain ⟨bw, ba, qa, zb⟩ := R.out
      obtain ⟨⟨c0, c1, c2⟩, _⟩ := ba.c
      obtain ⟨⟨u0, u1, u2⟩, v0, v1, v2⟩ := qa.c
      obtain ⟨s, hs⟩ : ∃ s, j % 64 = s := ⟨_, rfl⟩
      have s64 : s < 64 := by omega
      have f1 : bits .and .i64 (j : Int) 63 = (s : Int) := by rw [and63 j (by omega), hs]
      have f2 : IntKind.u64.wrap (s : Int) = (s : Int) := by rw [IntKind.wrap_u64]; omega
      have f3 := bit_lo M s s64
      have f4 := bit_hi M s HM.out.1
      have f5 := pow_wrap s s64
      have f6 : min s 64 = s := by omega
      have E2 := Lib.hid e2
      have Y := Lib.hid (And.intro y1 y2)
      have QB := Lib.hid qb
      have HM1 := Lib.hid HM.out.1
      clear e2 y1 y2 qb hr hq HM hi
      obtain ⟨bl, hbl⟩ : ∃ x, M / 2 ^ s % 2 = x := ⟨_, rfl⟩
      obtain ⟨bh, hbh⟩ : ∃ x, M / 2 ^ (64 + s) % 2 = x := ⟨_, rfl⟩
      rw [hbl] at f3
      rw [hbh] at f4
      have e2 := E2.out
      by_cases h64 : 64 ≤ j
      · have g2 : decide (64 ≤ (j : Int)) = true := by simp; omega
        have hj : j = 64 + s := by omega
        have HJ := Lib.hid hj
        obtain rfl : bh = b := by rw [← hbh, ← hb, ← hT, hj]
        clear hj hs hbl hbh hb
        by_cases hlt : t < d
        · have g3 : decide (d ≤ t) = false := by simp; omega
          have e0 : Q = 2 * q * 2 ^ j := by rw [← HQ.out, Nat.pow_succ, Nat.mul_comm (2 ^ j) 2, ← Nat.mul_assoc, Nat.mul_comm q 2]
          go_wp2_with fail
          go_roundw
          case rel =>
            refine ⟨j, (j : Int) - 1, by omega, rfl, by go_num, ?_, ?_⟩
            · rw [hT, (Y.out.1 hlt).1]
            · rw [hT, (Y.out.1 hlt).2, ← e0]; exact R
          case measure => simp [intOf]
        · have g3 : decide (d ≤ t) = true := by simp; omega
          obtain ⟨N, hN⟩ : ∃ N, (2 * q + 1) * 2 ^ j = N := ⟨_, rfl⟩
          have HN := Lib.hid hN
          have e4 : IntKind.u64.wrap ((t : Int) - (d : Int)) = ((t - d : Nat) : Int) := by have := W2.out; rw [IntKind.wrap_u64]; omega
          obtain ⟨u, hu⟩ : ∃ u, t - d = u := ⟨_, rfl⟩
          rw [hu] at e4
          obtain ⟨o1, o2⟩ := (show _ ∧ _ from by have := or_hi q s (by rw [← HJ.out, HQ.out]; have := QB.out; have := HM1.out; omega) s64; rw [← HJ.out, HQ.out] at this; exact this)
          rw [hN] at o1 o2
          clear hN
          go_wp2_with fail
          go_roundw
          case rel =>
            refine ⟨j, (j : Int) - 1, by omega, rfl, by go_num, ?_, ?_⟩
            · rw [hT, (Y.out.2 hlt).1, hu]
            · rw [hT, (Y.out.2 hlt).2, HN.out]
              exact Lib.hid ⟨bw.setCell (by simp; omega) _, ba.other (by simp; omega) _, qa.set0 o2, zb.other (by simp) _⟩
          case measure => simp [intOf]
      · have g2 : decide (64 ≤ (j : Int)) = false := by simp; omega
        have hj : j = s := by omega
        have HJ := Lib.hid hj
        obtain rfl : bl = b := by rw [← hbl, ← hb, ← hT, hj]
        clear hj hs hbl hbh hb
        by_cases hlt : t < d
        · have g3 : decide (d ≤ t) = false := by simp; omega
          have e0 : Q = 2 * q * 2 ^ j := by rw [← HQ.out, Nat.pow_succ, Nat.mul_comm (2 ^ j) 2, ← Nat.mul_assoc, Nat.mul_comm q 2]
          go_wp2_with fail
          go_roundw
          case rel =>
            refine ⟨j, (j : Int) - 1, by omega, rfl, by go_num, ?_, ?_⟩
            · rw [hT, (Y.out.1 hlt).1]
            · rw [hT, (Y.out.1 hlt).2, ← e0]; exact R
          case measure => simp [intOf]
        · have g3 : decide (d ≤ t) = true := by simp; omega
          obtain ⟨N, hN⟩ : ∃ N, (2 * q + 1) * 2 ^ j = N := ⟨_, rfl⟩
          have HN := Lib.hid hN
          have e4 : IntKind.u64.wrap ((t : Int) - (d : Int)) = ((t - d : Nat) : Int) := by have := W2.out; rw [IntKind.wrap_u64]; omega
          obtain ⟨u, hu⟩ : ∃ u, t - d = u := ⟨_, rfl⟩
          rw [hu] at e4
          obtain ⟨o1, o2⟩ := (show _ ∧ _ from by have := or_lo q s (by rw [← HJ.out, HQ.out]; have := QB.out; have := HM1.out; omega) s64; rw [← HJ.out, HQ.out, show (2 : Int) ^ j = 2 ^ s by rw [HJ.out]] at this; exact this)
          rw [hN] at o1 o2
          clear hN
          go_wp2_with fail
          go_roundw
          case rel =>
            refine ⟨j, (j : Int) - 1, by omega, rfl, by go_num, ?_, ?_⟩
            · rw [hT, (Y.out.2 hlt).1, hu]
            · rw [hT, (Y.out.2 hlt).2, HN.out]
              exact Lib.hid ⟨bw.setCell (by simp; omega) _, ba.other (by simp; omega) _, qa.set1 o2, zb.other (by simp) _⟩
          case measure => simp [intOf]
end Go.Proofs.YtgfklheepkgedaaGreat
/- Contracts of the reference's scalars (7): Add, Sub, Neg. -/
namespace Go.Proofs.YtgfklheepkgedaaGreat
open Go.RowKit
set_option maxRecDepth 100000
end Go.Proofs.YtgfklheepkgedaaGreat
/- Contracts of the reference's scalars (8): Mul by 2^30 and 2^44, M. -/
namespace Go.Proofs.YtgfklheepkgedaaGreat
open Go.RowKit
set_option maxRecDepth 100000
theorem sg2_mul (x y : Int) (P : Nat) (hP : x.natAbs * y.natAbs = P) : sv (sg2 x y) P = x * y := by
  subst hP
  unfold sv sg2
  have hx := Int.natAbs_mul x y
  by_cases h1 : x < 0 <;> by_cases h2 : y < 0
  · simp only [if_pos h1, if_pos h2, Bool.false_eq_true, if_false]
    rw [← hx]; have := Int.mul_pos_of_neg_of_neg h1 h2; omega
  · simp only [if_pos h1, if_neg h2, if_true]
    rw [← hx]; have := Int.mul_nonpos_of_nonpos_of_nonneg (Int.le_of_lt h1) (Int.not_lt.mp h2); omega
  · simp only [if_neg h1, if_pos h2, if_true]
    rw [← hx]; have := Int.mul_nonpos_of_nonneg_of_nonpos (Int.not_lt.mp h1) (Int.le_of_lt h2); omega
  · simp only [if_neg h1, if_neg h2, Bool.false_eq_true, if_false]
    rw [← hx]; have := Int.mul_nonneg (Int.not_lt.mp h1) (Int.not_lt.mp h2); omega
theorem abs_prod_bd (a b : Int) : (satV a).natAbs * (satV b).natAbs ≤ 1329227995784915872903807060280344576 := by
  have ha := satV_bd a
  have hb := satV_bd b
  exact Nat.le_trans (Nat.mul_le_mul (show (satV a).natAbs ≤ 1152921504606846976 by omega) (show (satV b).natAbs ≤ 1152921504606846976 by omega)) (by decide)
end Go.Proofs.YtgfklheepkgedaaGreat
/- The reference's angles: Wrap, Sin, Cos. -/
namespace Go.Proofs.YtgfklheepkgedaaGreat
open Go.RowKit
set_option maxRecDepth 100000
end Go.Proofs.YtgfklheepkgedaaGreat
/- The reference's sines and cosines tell the program's numbers. -/
namespace Go.Proofs.YtgfklheepkgedaaGreat
open Go.RowKit
set_option maxRecDepth 100000
/-- The flag, the quiet one, a list of coefficients. -/
structure RsnR (c : Addr) (h : Bool) (qb : Nat) (w wr : World) : Prop where
  upd : Upd c h w wr
  cell : wr.cell? c = some (.bool h)
  free : wr.frozen? c = false
  q : wr.cell? ⟨qb, 0, none⟩ = some (.bool false)
  qf : wr.frozen? ⟨qb, 0, none⟩ = false
  cb : c.block < w.heap.size
  lt : w.heap.size ≤ qb
theorem RsnR.qlt {c : Addr} {h : Bool} {qb : Nat} {w wr : World} (s : RsnR c h qb w wr) : qb < wr.heap.size := World.block_lt_of_cell? wr ⟨qb, 0, none⟩ s.q
theorem RsnR.upd' {c : Addr} {h h' : Bool} {qb : Nat} {w wr w' : World} (s : RsnR c h qb w wr) (u : Upd c h' wr w') : RsnR c h' qb w w' := by
  have := s.cb
  have := s.lt
  have hq := s.qlt
  have hne : c ≠ ⟨qb, 0, none⟩ := fun e => by have := congrArg Addr.block e; simp only at this; omega
  exact ⟨s.upd.trans u, u.cellc s.cell, (u.frozen (World.block_lt_of_cell? _ _ s.cell)).trans s.free, (u.cell hq hne).trans s.q, (u.frozen hq).trans s.qf, s.cb, s.lt⟩
theorem RsnR.down {c : Addr} {h : Bool} {qb : Nat} {w wr w' : World} (s : RsnR c h qb w wr) (u : Below wr.heap.size wr w') : RsnR c h qb w w' :=
  ⟨s.upd.then u, (u.cell (World.block_lt_of_cell? _ _ s.cell)).trans s.cell, (u.frozen (World.block_lt_of_cell? _ _ s.cell)).trans s.free, (u.cell s.qlt).trans s.q, (u.frozen s.qlt).trans s.qf, s.cb, s.lt⟩
/-- .. and the coefficients. -/
def RslR (c : Addr) (h : Bool) (qb lb n : Nat) (L : Nat → Int) (w wr : World) : Prop := RsnR c h qb w wr ∧ (∀ i, i < n → wr.cell? ⟨lb, i, none⟩ = some (.int .i64 (L (i + 1)))) ∧ qb < lb
theorem RslR.down {c : Addr} {h : Bool} {qb lb n : Nat} {L : Nat → Int} {w wr w' : World} (s : RslR c h qb lb n L w wr) (u : Below wr.heap.size wr w') : RslR c h qb lb n L w w' :=
  ⟨s.1.down u, fun i hi => (u.cell (World.block_lt_of_cell? wr ⟨lb, i, none⟩ (s.2.1 i hi))).trans (s.2.1 i hi), s.2.2⟩
theorem RslR.upd' {c : Addr} {h h' : Bool} {qb lb n : Nat} {L : Nat → Int} {w wr w' : World} (s : RslR c h qb lb n L w wr) (u : Upd c h' wr w') : RslR c h' qb lb n L w w' := by
  have a := s.1.cb
  have b := s.1.lt
  have d := s.2.2
  exact ⟨s.1.upd' u, fun i hi => (u.cell (World.block_lt_of_cell? wr ⟨lb, i, none⟩ (s.2.1 i hi)) (fun e => by have := congrArg Addr.block e; simp only at this; omega)).trans (s.2.1 i hi), s.2.2⟩
end Go.Proofs.YtgfklheepkgedaaGreat
/- Contracts of the reference's scalars (9): Div, D, MulDiv. -/
namespace Go.Proofs.YtgfklheepkgedaaGreat
open Go.RowKit
set_option maxRecDepth 100000
theorem rdiv_sg (a b : Int) (hb : b ≠ 0) : rdiv a b = sv (sg2 a b) (dvM a.natAbs b.natAbs) := by
  have hd : 0 < b.natAbs := by omega
  have e := rdiv_dv false a.natAbs b.natAbs hd
  have h0 : dvM 0 b.natAbs = 0 := by unfold dvM; rw [Nat.zero_mod, Nat.zero_div, if_neg (by omega)]
  unfold rdiv
  have e2 : (((2 * a.natAbs + b.natAbs) / (2 * b.natAbs) : Nat) : Int) = (dvM a.natAbs b.natAbs : Int) := by
    have := e
    unfold rdiv sv at this
    simp only [Bool.false_eq_true, if_false, Int.natAbs_natCast] at this
    rw [if_pos (by simp; omega)] at this
    exact this
  rw [e2]
  by_cases ha0 : a = 0
  · subst ha0
    simp only [Int.natAbs_zero]
    rw [h0, sv_0]
    simp
  · unfold sv sg2
    by_cases h1 : a < 0 <;> by_cases h2 : b < 0
    · simp only [if_pos h1, if_pos h2, Bool.false_eq_true, if_false]
      rw [if_pos (by simp; omega)]
    · simp only [if_pos h1, if_neg h2, if_true]
      rw [if_neg (by simp; omega)]
    · simp only [if_neg h1, if_pos h2, if_true]
      rw [if_neg (by simp; omega)]
    · simp only [if_neg h1, if_neg h2, Bool.false_eq_true, if_false]
      rw [if_pos (by simp; omega)]
theorem sg2_pow (x y : Int) (s : Nat) : sg2 (x * 2 ^ s) y = sg2 x y := by
  have hp : (0 : Int) < 2 ^ s := Int.pow_pos (by decide)
  have : x * 2 ^ s < 0 ↔ x < 0 := by
    constructor
    · intro h; by_cases h1 : x < 0; exact h1
      have := Int.mul_nonneg (Int.not_lt.mp h1) (Int.le_of_lt hp); omega
    · intro h; exact Int.mul_neg_of_neg_of_pos h hp
  unfold sg2
  simp only [this]
set_option maxHeartbeats 1000000 in
theorem rdivs30 (c : Addr) (h : Bool) (a b x y : Int) (X Y M : Nat) (m bx b_y : Bool) (w : World) (hc : w.cell? c = some (.bool h)) (hf : w.frozen? c = false)
    (hx : satV a = x) (hy : satV b = y) (hX : x.natAbs = X) (hY : y.natAbs = Y) (hM : X * 1073741824 = M) (dx : decide (x < 0) = bx) (dy : decide (y < 0) = b_y) (hm : (!bx == b_y) = m) (y0 : (y == 0) = false) :
    Calls Tryz.prog 97 #[.pointer (some c), .int .i64 a, .int .i64 b, .int .i64 30] w fun e w' => e = .returned (.int .i64 (satV (sv m (dvM M Y)))) ∧ Upd c (h || satH a || satH b || satH (sv m (dvM M Y))) w w' := by
  have hcb := World.block_lt_of_cell? w c hc
  have bdx := satV_bd a
  have bdy := satV_bd b
  rw [hx] at bdx
  rw [hy] at bdy
  have y1 : 0 < Y := by have : y ≠ 0 := by simpa using y0
                        omega
  have e1 : (X : Int) / 17179869184 = hi64 (M : Int) := by rw [← hM]; unfold hi64; omega
  have e2 : IntKind.u64.wrap ((X : Int) * 1073741824) = lo64 (M : Int) := by rw [← hM, IntKind.wrap_u64]; unfold lo64; omega
  have SX := Lib.hid (fun w => rsize_any x w bdx.1 bdx.2)
  have SY := Lib.hid (fun w => rsize_any y w bdy.1 bdy.2)
  rw [hX] at SX
  rw [hY] at SY
  have DV := Lib.hid (fun w => rdivided_any M Y m w (by omega) y1 (by omega))
  have c1 : (w.setCell c (.bool (h || satH a))).cell? c = some (.bool (h || satH a)) := World.cell?_setCell_same _ _ _ hc
  have c2 : ((w.setCell c (.bool (h || satH a))).setCell c (.bool (h || satH a || satH b))).cell? c = some (.bool (h || satH a || satH b)) := World.cell?_setCell_same _ _ _ c1
  have C2 := Lib.hid c2
  clear c2 hX hY hM bdx bdy y1
  go_enter Tryz.func97, Tryz.ntmps97
  go_upto_region 2 with (refine (rsat_any c h a _ hc hf).mono ?_; rintro e w' ⟨rfl, rfl⟩)
  go_upto_region 3 with (refine (rsat_any c _ b _ c1 (by simp [hf])).mono ?_; rintro e w' ⟨rfl, rfl⟩)
  have HW := Lib.hid (Upd.trans (Upd.set c (h || satH a) w) (Upd.set c (h || satH a || satH b) _))
  have F2 : ((w.setCell c (.bool (h || satH a))).setCell c (.bool (h || satH a || satH b))).frozen? c = false := by simp [hf]
  have Z2 := Upd.size HW.out
  obtain ⟨w2, hw2⟩ : ∃ w2, (w.setCell c (.bool (h || satH a))).setCell c (.bool (h || satH a || satH b)) = w2 := ⟨_, rfl⟩
  rw [hw2] at HW C2 F2 Z2 ⊢
  clear hw2 c1 hc hf
  go_upto_region 17 with (refine (SX.out _).mono ?_; rintro e w' ⟨rfl, rfl⟩)
  have k1 : (w2.alloc (.cells #[.int .u64 (hi64 (M : Int)), .int .u64 (lo64 (M : Int)), .bool m] 137)).cell? c = some (.bool (h || satH a || satH b)) := by rw [World.cell?_alloc_lt _ _ _ (by omega)]; exact C2.out
  have k2 : (w2.alloc (.cells #[.int .u64 (hi64 (M : Int)), .int .u64 (lo64 (M : Int)), .bool m] 137)).frozen? c = false := by rw [frozen?_alloc_cells]; exact F2
  have D3 := Wid.new w2 (M : Int) m
  have B3 : Below w2.heap.size w2 (w2.alloc (.cells #[.int .u64 (hi64 (M : Int)), .int .u64 (lo64 (M : Int)), .bool m] 137)) := by (repeat (first | with_reducible exact Below.refl _ _ | with_reducible apply Below.drew | (with_reducible refine below_drewN ?_ _) | (with_reducible refine Below.alloc ?_ (by (try simp) <;> omega) _) | (with_reducible refine Below.setCell ?_ (by (try simp) <;> omega) _)))
  have z3 := D3.lt
  generalize w2.alloc (.cells #[.int .u64 (hi64 (M : Int)), .int .u64 (lo64 (M : Int)), .bool m] 137) = w3 at *
  have B3 := Lib.hid B3
  obtain ⟨⟨d0, d1, d2⟩, _⟩ := D3.c
  have nc : ∀ o, c ≠ ⟨w2.heap.size, o, none⟩ := fun o e => by rw [e] at hcb; simp at hcb; omega
  clear C2 F2 D3
  refine wp_region_M (fun w' => w'.cell? ⟨w2.heap.size, 0, none⟩ = some (.int .u64 (hi64 (M : Int))) ∧ w'.cell? ⟨w2.heap.size, 1, none⟩ = some (.int .u64 (lo64 (M : Int))) ∧ w'.cell? ⟨w2.heap.size, 2, none⟩ = some (.bool m)) 6 (by kernel_rfl) ?_ (fun hHeld => ?_)
  · exact ⟨d0, d1, d2⟩
  refine wpAnyM_take 0 (v := ?_) rfl (by kernel_rfl) (fun _ _ _ h => h) (Or.inl ⟨by rfl, ?_⟩) (by assumption) ?_
  rotate_left
  · (intro wx hSw; (try dsimp only at hSw); go_simp; (try with_reducible rfl))
  (try simp only [Act.put, nA, nB, nC])
  refine wpAnyM_take 1 (v := ?_) rfl (by kernel_rfl) (fun _ _ _ h => h) (Or.inl ⟨by rfl, ?_⟩) (by assumption) ?_
  rotate_left
  · (intro wx hSw; (try dsimp only at hSw); go_simp; (try with_reducible rfl))
  (try simp only [Act.put, nA, nB, nC])
  refine wpAnyM_take 2 (v := ?_) rfl (by kernel_rfl) (fun _ _ _ h => h) (Or.inl ⟨by rfl, ?_⟩) (by assumption) ?_
  rotate_left
  · (intro wx hSw; (try dsimp only at hSw); go_simp; (try with_reducible rfl))
  (try simp only [Act.put, nA, nB, nC])
  refine wpAnyM_oneS 3 rfl (by kernel_rfl) (fun K hK => ?_)
  go_simp
  (refine (SY.out _).mono ?_; rintro e w' ⟨rfl, rfl⟩)
  (try dsimp only)
  (try simp only [Act.put, nA, nB, nC])
  clear hHeld
  refine hK.out _ _ ?_ (fun hHeld => ?_)
  · exact ⟨d0, d1, d2⟩
  clear hK K
  (try simp only [Act.put, nA, nB, nC])
  refine wpAnyM_oneS 4 rfl (by kernel_rfl) (fun K hK => ?_)
  go_simp
  (refine (DV.out _).mono ?_; rintro e w4 ⟨rfl, hb4⟩)
  (try dsimp only)
  (try simp only [Act.put, nA, nB, nC])
  clear hHeld
  refine hK.out _ _ ?_ (fun hHeld => ?_)
  · exact ⟨(hb4.cell z3).trans d0, (hb4.cell z3).trans d1, (hb4.cell z3).trans d2⟩
  clear hK K
  (try simp only [Act.put, nA, nB, nC])
  refine wpAnyM_oneS 5 rfl (by kernel_rfl) (fun K hK => ?_)
  go_simp
  (refine (rend2_any c _ (dvM M Y) m _ ((hb4.cell (by (try simp); omega)).trans (by simpa using k1)) ((hb4.frozen (by (try simp); omega)).trans (by simpa using k2))).mono ?_; rintro e w5 ⟨rfl, hu5⟩)
  (try dsimp only)
  (try simp only [Act.put, nA, nB, nC])
  clear hHeld
  refine hK.out _ _ ?_ (fun hHeld => ?_)
  · have z4 : w2.heap.size < w4.heap.size := Nat.lt_of_lt_of_le z3 hb4.size; exact ⟨(hu5.cell z4 (nc 0)).trans ((hb4.cell z3).trans d0), (hu5.cell z4 (nc 1)).trans ((hb4.cell z3).trans d1), (hu5.cell z4 (nc 2)).trans ((hb4.cell z3).trans d2)⟩
  clear hK K
  (try simp only [Act.put, nA, nB, nC])
  refine wpAnyM_one 6 rfl (by kernel_rfl) (fun K hK => ?_)
  go_simp
  refine hK.out _ _ (.inl (by kernel_rfl)) (fun _ => ?_)
  clear hK K
  (try simp only [Act.put, nA, nB, nC])
  refine wpAnyM_done (by kernel_rfl) ?_ _
  go_wp2_with fail
  go_ret
  refine ⟨rfl, ?_⟩
  exact HW.out.trans (Upd.after B3.out (Upd.after (Below.drew (Below.refl _ _)) (Upd.after hb4 hu5)))
set_option maxHeartbeats 2000000 in
theorem rdivs0 (c : Addr) (h : Bool) (a b s : Int) (w : World) (hc : w.cell? c = some (.bool h)) (hf : w.frozen? c = false) (hy : satV b = 0) :
    Calls Tryz.prog 97 #[.pointer (some c), .int .i64 a, .int .i64 b, .int .i64 s] w fun e w' =>
      e = .returned (.int .i64 (if satV a = 0 then 0 else if satV a < 0 then -1152921504606846976 else 1152921504606846976)) ∧ Upd c true w w' := by
  obtain ⟨x, hx⟩ : ∃ x, satV a = x := ⟨_, rfl⟩
  have c1 : (w.setCell c (.bool (h || satH a))).cell? c = some (.bool (h || satH a)) := World.cell?_setCell_same _ _ _ hc
  have c2 : ((w.setCell c (.bool (h || satH a))).setCell c (.bool (h || satH a || satH b))).cell? c = some (.bool (h || satH a || satH b)) := World.cell?_setCell_same _ _ _ c1
  have F2 : ((w.setCell c (.bool (h || satH a))).setCell c (.bool (h || satH a || satH b))).frozen? c = false := by simp [hf]
  have HV := Lib.hid (show ∀ v, (if x = 0 then 0 else if x < 0 then -1152921504606846976 else 1152921504606846976) = v → (if satV a = 0 then 0 else if satV a < 0 then -1152921504606846976 else 1152921504606846976) = v from fun v hv => by rw [hx]; exact hv)
  have C2 := Lib.hid c2
  have HF2 := Lib.hid F2
  clear c2 F2
  have HX := Lib.hid (show (0 < x ∨ x = 0 ∨ x < 0) by omega)
  rcases HX.out with g | g | g
  · have g1 : decide (0 < x) = true := by simpa using g
    rw [HV.out 1152921504606846976 (by rw [if_neg (by omega), if_neg (by omega)])]
    clear HX HV g
    go_enter Tryz.func97, Tryz.ntmps97
    go_upto_region 2 with (refine (rsat_any c h a _ hc hf).mono ?_; rintro e w' ⟨rfl, rfl⟩)
    go_upto_region 3 with (refine (rsat_any c _ b _ c1 (by simp [hf])).mono ?_; rintro e w' ⟨rfl, rfl⟩)
    have HW := Lib.hid (Upd.trans (Upd.trans (Upd.set c (h || satH a) w) (Upd.set c (h || satH a || satH b) _)) (Upd.set c true _))
    have c2 := C2.out
    have f2 := HF2.out
    clear C2 HF2 c1
    generalize (w.setCell c (.bool (h || satH a))).setCell c (.bool (h || satH a || satH b)) = w2 at *
    go_wp2_with fail
    go_ret
    exact ⟨rfl, HW.out⟩
  · subst g
    have g1 : decide ((0 : Int) < 0) = false := by decide
    rw [HV.out 0 (by rw [if_pos rfl])]
    clear HX HV
    go_enter Tryz.func97, Tryz.ntmps97
    go_upto_region 2 with (refine (rsat_any c h a _ hc hf).mono ?_; rintro e w' ⟨rfl, rfl⟩)
    go_upto_region 3 with (refine (rsat_any c _ b _ c1 (by simp [hf])).mono ?_; rintro e w' ⟨rfl, rfl⟩)
    have HW := Lib.hid (Upd.trans (Upd.trans (Upd.set c (h || satH a) w) (Upd.set c (h || satH a || satH b) _)) (Upd.set c true _))
    have c2 := C2.out
    have f2 := HF2.out
    clear C2 HF2 c1
    generalize (w.setCell c (.bool (h || satH a))).setCell c (.bool (h || satH a || satH b)) = w2 at *
    go_wp2_with fail
    go_ret
    exact ⟨rfl, HW.out⟩
  · have g1 : decide (0 < x) = false := by simp; omega
    have g2 : decide (x < 0) = true := by simpa using g
    rw [HV.out (-1152921504606846976) (by rw [if_neg (by omega), if_pos g])]
    clear HX HV g
    go_enter Tryz.func97, Tryz.ntmps97
    go_upto_region 2 with (refine (rsat_any c h a _ hc hf).mono ?_; rintro e w' ⟨rfl, rfl⟩)
    go_upto_region 3 with (refine (rsat_any c _ b _ c1 (by simp [hf])).mono ?_; rintro e w' ⟨rfl, rfl⟩)
    have HW := Lib.hid (Upd.trans (Upd.trans (Upd.set c (h || satH a) w) (Upd.set c (h || satH a || satH b) _)) (Upd.set c true _))
    have c2 := C2.out
    have f2 := HF2.out
    clear C2 HF2 c1
    generalize (w.setCell c (.bool (h || satH a))).setCell c (.bool (h || satH a || satH b)) = w2 at *
    go_wp2_with fail
    go_ret
    exact ⟨rfl, HW.out⟩
theorem dv_fact (s : Nat) (x y : Int) (X M P : Nat) (hX : x.natAbs = X) (hp : 2 ^ s = P) (hM : X * P = M) (hy : y ≠ 0) : rdiv (x * 2 ^ s) y = sv (sg2 x y) (dvM M y.natAbs) := by
  rw [rdiv_sg _ _ hy, sg2_pow]
  congr 2
  rw [Int.natAbs_mul, hX, ← hM, ← hp]
  congr 1
theorem sg2_ne (x y : Int) : (!decide (x < 0) == decide (y < 0)) = sg2 x y := by
  unfold sg2
  by_cases h1 : x < 0 <;> by_cases h2 : y < 0 <;> simp [h1, h2]
theorem rdiv30_any (c : Addr) (h : Bool) (a b : Int) (w : World) (hc : w.cell? c = some (.bool h)) (hf : w.frozen? c = false) :
    Calls Tryz.prog 97 #[.pointer (some c), .int .i64 a, .int .i64 b, .int .i64 30] w fun e w' => e = .returned (.int .i64 (divV a b 30)) ∧ Upd c (h || divH a b 30) w w' := by
  by_cases hy : satV b = 0
  · have e2 : (h || divH a b 30) = true := by simp [divH, byH, hy]
    have hp : (0 : Int) < 2 ^ 30 := by decide
    have e1 : divV a b 30 = (if satV a = 0 then 0 else if satV a < 0 then -1152921504606846976 else 1152921504606846976) := by
      unfold divV byV
      rw [if_neg (by decide), if_pos hy]
      rw [show ((30 : Int).toNat) = 30 from rfl]
      generalize satV a = x
      have k : (2 : Int) ^ 30 = 1073741824 := by decide
      rw [k]
      by_cases h0 : x = 0
      · rw [if_pos (by omega), if_pos h0]
      · rw [if_neg (by omega), if_neg h0]
        by_cases h1 : x < 0
        · rw [if_pos (by omega), if_pos h1]
        · rw [if_neg (by omega), if_neg h1]
    rw [e1, e2]
    exact rdivs0 c h a b 30 w hc hf hy
  · have k := dv_fact 30 (satV a) (satV b) _ _ 1073741824 rfl (by decide) rfl hy
    have e1 : divV a b 30 = satV (sv (sg2 (satV a) (satV b)) (dvM ((satV a).natAbs * 1073741824) (satV b).natAbs)) := by
      rw [← k]; unfold divV byV
      rw [if_neg (by decide), if_neg hy]; rfl
    have e2 : (h || divH a b 30) = (h || satH a || satH b || satH (sv (sg2 (satV a) (satV b)) (dvM ((satV a).natAbs * 1073741824) (satV b).natAbs))) := by
      rw [← k]; unfold divH byH
      rw [show decide ((30 : Int) < 0 ∨ 66 < (30 : Int)) = false by decide, show decide (satV b = 0) = false by simpa using hy]
      simp only [Bool.false_or, Bool.or_assoc]; rfl
    rw [e1, e2]
    exact rdivs30 c h a b _ _ _ _ _ _ _ _ w hc hf rfl rfl rfl rfl rfl rfl rfl (sg2_ne _ _) (by simpa using hy)
theorem rd_any (c : Addr) (h : Bool) (a b : Int) (w : World) (hc : w.cell? c = some (.bool h)) (hf : w.frozen? c = false) :
    Calls Tryz.prog 67 #[.pointer (some c), .int .i64 a, .int .i64 b] w fun e w' => e = .returned (.int .i64 (divV a b 30)) ∧ Upd c (h || divH a b 30) w w' := by
  go_enter Tryz.func67, Tryz.ntmps67
  go_wp2_with fail
  refine (rdiv30_any c h a b _ hc hf).mono ?_; rintro e w1 ⟨rfl, hu⟩
  go_wp2_with fail
  go_ret
  exact ⟨rfl, hu⟩
end Go.Proofs.YtgfklheepkgedaaGreat
/- Contract of the reference's root: bit by bit. -/
namespace Go.Proofs.YtgfklheepkgedaaGreat
open Go.RowKit
open Go (bits)
set_option maxRecDepth 100000
/-- The reference's root behind n of 64 bits. -/
def rfR (A : Nat) : Nat → Nat | 0 => 0 | n + 1 => if (rfR A n + 2 ^ (63 - n)) * (rfR A n + 2 ^ (63 - n)) ≤ A then rfR A n + 2 ^ (63 - n) else rfR A n
theorem rfR_inv (A : Nat) (hA : A < 2 ^ 128) : ∀ n, n ≤ 64 → (∃ q, rfR A n = q * 2 ^ (64 - n)) ∧ rfR A n * rfR A n ≤ A ∧ A < (rfR A n + 2 ^ (64 - n)) * (rfR A n + 2 ^ (64 - n))
  | 0, _ => ⟨⟨0, by simp [rfR]⟩, by simp [rfR], by simp only [rfR, Nat.zero_add, Nat.sub_zero]; rw [← Nat.pow_add]; exact hA⟩
  | n + 1, hn => by
    obtain ⟨⟨q, hq⟩, h1, h2⟩ := rfR_inv A hA n (by omega)
    have e : 64 - n = (63 - n) + 1 := by omega
    rw [e, Nat.pow_succ] at hq h2
    rw [show 64 - (n + 1) = 63 - n by omega]
    simp only [rfR]
    generalize 2 ^ (63 - n) = p at *
    by_cases h : (rfR A n + p) * (rfR A n + p) ≤ A
    · rw [if_pos h]
      refine ⟨⟨2 * q + 1, by rw [hq]; grind⟩, h, ?_⟩
      rw [show rfR A n + p + p = rfR A n + p * 2 by omega]; exact h2
    · rw [if_neg h]
      exact ⟨⟨2 * q, by rw [hq]; grind⟩, h1, by omega⟩
theorem sq_lt_of {a b A : Nat} (h1 : a * a ≤ A) (h2 : A < (b + 1) * (b + 1)) : a ≤ b := by
  rcases Nat.lt_or_ge b a with h | h
  · have : (b + 1) * (b + 1) ≤ a * a := Nat.mul_le_mul h h
    omega
  · exact h
theorem rfR_root (A : Nat) (hA : A < 2 ^ 126) : rootV A = (if rfR A 64 < A - rfR A 64 * rfR A 64 then rfR A 64 + 1 else rfR A 64) ∧ rfR A 64 * rfR A 64 ≤ A ∧ A - rfR A 64 * rfR A 64 ≤ 2 * rfR A 64 ∧ rfR A 64 < 9223372036854775808 := by
  have hA8 : A < 2 ^ 128 := Nat.lt_trans hA (by decide)
  obtain ⟨_, h1, h2⟩ := rfR_inv A hA8 64 (by decide)
  obtain ⟨R, g1, g2, g3⟩ := rootS_inv A hA8 64 (by decide)
  simp only [show 64 - 64 = 0 from rfl, Nat.pow_zero, Nat.mul_one] at h2 g1 g3
  have e : rfR A 64 = R := Nat.le_antisymm (sq_lt_of h1 g3) (sq_lt_of (by omega) h2)
  have ex : (R + 1) * (R + 1) = R * R + 2 * R + 1 := by grind
  rw [e] at h1 h2 ⊢
  refine ⟨?_, h1, by omega, ?_⟩
  · unfold rootV
    rw [g1, show (rootS A 64).1 = A - R * R by omega]
  · rcases Nat.lt_or_ge R 9223372036854775808 with h | h
    · exact h
    · have h4 : 9223372036854775808 * 9223372036854775808 ≤ R * R := Nat.mul_le_mul h h
      have h5 : (2 : Nat) ^ 126 = 85070591730234615865843651857942052864 := by decide
      omega
theorem rfR_64 (A : Nat) (hA : A < 2 ^ 126) (n : Nat) (hn : n < 64) : rfR A n + 2 ^ (63 - n) < 18446744073709551616 := by
  obtain ⟨⟨q, hq⟩, h1, h2⟩ := rfR_inv A (Nat.lt_trans hA (by decide)) n (by omega)
  have hp : 2 ^ (63 - n) ≤ 2 ^ 63 := Nat.pow_le_pow_right (by decide) (by omega)
  have h6 : (2 : Nat) ^ 63 = 9223372036854775808 := by decide
  rcases Nat.lt_or_ge (rfR A n) 9223372036854775808 with h | h
  · omega
  · have h4 : 9223372036854775808 * 9223372036854775808 ≤ rfR A n * rfR A n := Nat.mul_le_mul h h
    have h5 : (2 : Nat) ^ 126 = 85070591730234615865843651857942052864 := by decide
    omega
theorem rfR_or (A : Nat) (hA : A < 2 ^ 126) (n : Nat) (hn : n < 64) : bits .or .u64 ((rfR A n : Nat) : Int) (2 ^ (63 - n)) = ((rfR A n + 2 ^ (63 - n) : Nat) : Int) := by
  obtain ⟨⟨q, hq⟩, h1, h2⟩ := rfR_inv A (Nat.lt_trans hA (by decide)) n (by omega)
  have hb := rfR_64 A hA n hn
  rw [show 64 - n = (63 - n) + 1 by omega] at hq
  obtain ⟨s, hs⟩ : ∃ s, 63 - n = s := ⟨_, rfl⟩
  rw [hs] at hq hb ⊢
  have hlt : q * 2 ^ (s + 1) < 18446744073709551616 := by rw [← hq]; exact Nat.lt_of_le_of_lt (Nat.le_add_right _ _) hb
  have h := (or_lo q s (Nat.lt_trans hlt (by decide)) (by omega)).1
  have e1 : lo64 ((q * 2 ^ (s + 1) : Nat) : Int) = ((q * 2 ^ (s + 1) : Nat) : Int) := by
    generalize q * 2 ^ (s + 1) = X at *
    unfold lo64; omega
  have e2 : (2 * q + 1) * 2 ^ s = q * 2 ^ (s + 1) + 2 ^ s := by rw [Nat.pow_succ]; grind
  rw [hq]
  rw [e1, e2] at h
  rw [h]
  rw [hq] at hb
  generalize q * 2 ^ (s + 1) + 2 ^ s = Y at *
  unfold lo64; omega
structure RrR (A : Nat) (w wr : World) : Prop where
  below : Below w.heap.size w wr
  a : Wid wr w.heap.size A false
  z : Wid wr (w.heap.size + 1) 0 false
set_option maxHeartbeats 8000000 in
theorem rroot_any (A : Nat) (w : World) (hA : A < 2 ^ 126) :
    Calls Tryz.prog 96 #[.agg #[.int .u64 (hi64 (A : Int)), .int .u64 (lo64 (A : Int)), .bool false]] w fun e w' =>
      e = .returned (.agg #[.int .u64 (hi64 (rootV A : Nat)), .int .u64 (lo64 (rootV A : Nat)), .bool false]) ∧ Below w.heap.size w w' := by
  have HA := Lib.hid hA
  clear hA
  have R0 : Hid (RrR A w ((w.alloc (.cells #[.int .u64 (hi64 (A : Int)), .int .u64 (lo64 (A : Int)), .bool false] 137)).alloc (.cells #[.int .u64 0, .int .u64 0, .bool false] 137))) := by
    refine Lib.hid ⟨by (repeat (first | with_reducible exact Below.refl _ _ | with_reducible apply Below.drew | (with_reducible refine below_drewN ?_ _) | (with_reducible refine Below.alloc ?_ (by (try simp) <;> omega) _) | (with_reducible refine Below.setCell ?_ (by (try simp) <;> omega) _))), (Wid.new w (A : Int) false).alloc _, ?_⟩
    have h := Wid.new (w.alloc (.cells #[.int .u64 (hi64 (A : Int)), .int .u64 (lo64 (A : Int)), .bool false] 137)) 0 false
    rw [show hi64 0 = 0 by decide, show lo64 0 = 0 by decide] at h
    simpa using h
  go_enter Tryz.func96, Tryz.ntmps96
  go_upto_region 1 with fail
  generalize (w.alloc (.cells #[.int .u64 (hi64 (A : Int)), .int .u64 (lo64 (A : Int)), .bool false] 137)).alloc (.cells #[.int .u64 0, .int .u64 0, .bool false] 137) = W0 at *
  go_wp2_with fail
  go_loopw [3, 4] (fun v3 v4 wr => ∃ (k : Nat) (i : Int), k ≤ 64 ∧ i = 63 - (k : Int) ∧ v4 = .int .i64 i ∧ v3 = .int .u64 ((rfR A k : Nat) : Int) ∧ Hid (RrR A w wr)) (fun _ v _ => (intOf v + 1).toNat)
  case atStart => exact ⟨0, 63, by omega, by omega, rfl, rfl, R0⟩
  case round =>
    obtain ⟨k, i, hk, hi, rfl, rfl, R⟩ := hrel
    clear R0
    obtain ⟨bw, ba, zb⟩ := R.out
    obtain ⟨⟨c0, c1, c2⟩, _⟩ := ba.c
    have HR := Lib.hid R.out
    clear R
    by_cases hlt : k < 64
    · obtain ⟨s, hs⟩ : ∃ s, 63 - k = s := ⟨_, rfl⟩
      obtain rfl : i = (s : Int) := by omega
      have s64 : s < 64 := by omega
      have g1 : decide (0 ≤ (s : Int)) = true := by simp
      have f2 : IntKind.u64.wrap (s : Int) = (s : Int) := by rw [IntKind.wrap_u64]; omega
      have f5 := pow_wrap s s64
      have f6 : min s 64 = s := by omega
      have fo := rfR_or A HA.out k hlt
      have fb := rfR_64 A HA.out k hlt
      have fs : rfR A (k + 1) = if (rfR A k + 2 ^ s) * (rfR A k + 2 ^ s) ≤ A then rfR A k + 2 ^ s else rfR A k := by simp only [rfR]; rw [hs]
      rw [hs] at fo fb
      obtain ⟨X, hX⟩ : ∃ X, rfR A k + 2 ^ s = X := ⟨_, rfl⟩
      rw [hX] at fo fb fs
      have HK := Lib.hid (And.intro hk hs)
      have FS := Lib.hid fs
      have FB := Lib.hid fb
      clear hX fs hk hi
      obtain ⟨r, hr⟩ : ∃ r, rfR A k = r := ⟨_, rfl⟩
      rw [hr] at fo ⊢
      have HRR := Lib.hid hr
      clear hr
      by_cases hx : X * X ≤ A
      · have e : ¬ ((A : Int) < (X : Int) * (X : Int)) := by rw [← Int.natCast_mul]; omega
        have dl : decide ((A : Int) < (X : Int) * (X : Int)) = false := by simpa using e
        clear e fb
        go_wp2_with (first | (go_at_call 120; (refine (rproduct_any (X : Int) (X : Int) _ (by omega) (by have := FB.out; omega) (by omega) (by have := FB.out; omega)).mono ?_); rintro e w1 ⟨rfl, rfl⟩) | (go_at_call 119; (refine (rless_any (A : Int) ((X : Int) * (X : Int)) false false _).mono ?_); rintro e w2 ⟨rfl, hb2⟩; (rw [dl]); have R2 : Hid (RrR A w w2) := Lib.hid ⟨Below.after HR.out.below hb2, HR.out.a.below hb2, HR.out.z.below hb2⟩; clear hb2))
        go_roundw
        case rel =>
          refine ⟨k + 1, (s : Int) - 1, by have := HK.out; omega, by have := HK.out; omega, by go_num, ?_, R2⟩
          rw [FS.out, if_pos hx]
        case measure => simp [intOf]
      · have e : ((A : Int) < (X : Int) * (X : Int)) := by rw [← Int.natCast_mul]; omega
        have dl : decide ((A : Int) < (X : Int) * (X : Int)) = true := by simpa using e
        clear e fb
        go_wp2_with (first | (go_at_call 120; (refine (rproduct_any (X : Int) (X : Int) _ (by omega) (by have := FB.out; omega) (by omega) (by have := FB.out; omega)).mono ?_); rintro e w1 ⟨rfl, rfl⟩) | (go_at_call 119; (refine (rless_any (A : Int) ((X : Int) * (X : Int)) false false _).mono ?_); rintro e w2 ⟨rfl, hb2⟩; (rw [dl]); have R2 : Hid (RrR A w w2) := Lib.hid ⟨Below.after HR.out.below hb2, HR.out.a.below hb2, HR.out.z.below hb2⟩; clear hb2))
        go_roundw
        case rel =>
          refine ⟨k + 1, (s : Int) - 1, by have := HK.out; omega, by have := HK.out; omega, by go_num, ?_, R2⟩
          rw [FS.out, if_neg hx, HRR.out]
        case measure => simp [intOf]
    · obtain rfl : k = 64 := by omega
      obtain rfl : i = -1 := by omega
      obtain ⟨y1, y2, y3, y4⟩ := rfR_root A HA.out
      obtain ⟨r, hr⟩ : ∃ r, rfR A 64 = r := ⟨_, rfl⟩
      rw [hr] at y1 y2 y3 y4 ⊢
      have Y1 := Lib.hid y1
      clear hr hlt hk hi y1
      obtain ⟨S, hS⟩ : ∃ S, r * r = S := ⟨_, rfl⟩
      obtain ⟨D, hD⟩ : ∃ D, A - S = D := ⟨_, rfl⟩
      rw [hS] at y2 y3 Y1
      rw [hD] at y3 Y1
      have hA126 : A < 85070591730234615865843651857942052864 := HA.out
      have em : adM false true A S = D := by unfold adM; rw [if_neg (by decide), if_neg (by omega)]; exact hD
      have es : adS false true A S = false := by unfold adS; rw [if_neg (by decide), if_neg (by omega)]
      have er : (r : Int) * (r : Int) = (S : Int) := by rw [← Int.natCast_mul, hS]
      have AD := Lib.hid (fun w => radd_any A S false true w (by omega))
      rw [em, es] at AD
      have ed1 : hi64 (D : Int) = 0 := by unfold hi64; omega
      have ed2 : lo64 (D : Int) = (D : Int) := by unfold lo64; omega
      rw [ed1, ed2] at AD
      have PR := Lib.hid (fun w => rproduct_any (r : Int) (r : Int) w (by omega) (by omega) (by omega) (by omega))
      rw [er] at PR
      have y5 : (r : Int) < 9223372036854775808 := by omega
      have y6 : (0 : Int) ≤ (r : Int) := Int.natCast_nonneg _
      clear hS hD em es er ed1 ed2 hA126 y2 y3 y4
      have g0 : decide ((0 : Int) < 0) = false := by decide
      by_cases hd : r < D
      · have g1 : decide (r < D) = true := by simpa using hd
        have g2 : decide ((r : Int) < (D : Int)) = true := by simp; omega
        have g3 : ((r : Int) + 1 == 0) = false := by simp; omega
        rw [if_pos hd] at Y1
        go_wp2_with (first | (go_at_call 120; (refine (PR.out _).mono ?_); rintro e w1 ⟨rfl, rfl⟩) | (go_at_call 93; (refine (AD.out _).mono ?_); rintro e w2 ⟨rfl, hb2⟩; have R2 := Lib.hid (Below.after HR.out.below hb2); have z2 := (HR.out.z.below hb2).c.2; have hz2 : w.heap.size + 1 < w2.heap.size := (HR.out.z.below hb2).lt; have z3 := (HR.out.z.below hb2).c.1; clear hb2))
        refine bodyPost_ret (v := .agg #[.int .u64 0, .int .u64 ((r : Int) + 1), .bool false]) (by simp [results, Tryz.results96, go_sem, *]) rfl ⟨?_, ?_⟩
        · rw [Y1.out, show hi64 (((r + 1 : Nat) : Int)) = 0 by unfold hi64; omega, show lo64 (((r + 1 : Nat) : Int)) = (r : Int) + 1 by unfold lo64; omega]
        · have bw := R2.out
          (repeat (first | exact bw | (refine Below.alloc ?_ (by (try simp); have := bw.size; omega) _) | (refine Below.setCell ?_ (by (try simp) <;> omega) _)))
      · have g1 : decide (r < D) = false := by simpa using hd
        have g2 : decide ((r : Int) < (D : Int)) = false := by simp; omega
        have g3 : ((r : Int) == 0) = decide (r = 0) := by rw [Bool.eq_iff_iff]; simp
        rw [if_neg hd] at Y1
        go_wp2_with (first | (go_at_call 120; (refine (PR.out _).mono ?_); rintro e w1 ⟨rfl, rfl⟩) | (go_at_call 93; (refine (AD.out _).mono ?_); rintro e w2 ⟨rfl, hb2⟩; have R2 := Lib.hid (Below.after HR.out.below hb2); have z2 := (HR.out.z.below hb2).c.2; have hz2 : w.heap.size + 1 < w2.heap.size := (HR.out.z.below hb2).lt; have z3 := (HR.out.z.below hb2).c.1; clear hb2))
        refine bodyPost_ret (v := .agg #[.int .u64 0, .int .u64 (r : Int), .bool false]) (by simp [results, Tryz.results96, go_sem, *]) rfl ⟨?_, ?_⟩
        · rw [Y1.out, show hi64 (((r : Nat) : Int)) = 0 by unfold hi64; omega, show lo64 (((r : Nat) : Int)) = (r : Int) by unfold lo64; omega]
        · have bw := R2.out
          (repeat (first | exact bw | (refine Below.alloc ?_ (by (try simp); have := bw.size; omega) _) | (refine Below.setCell ?_ (by (try simp) <;> omega) _)))
end Go.Proofs.YtgfklheepkgedaaGreat
/- Contract of the reference's Hypot. -/
namespace Go.Proofs.YtgfklheepkgedaaGreat
open Go.RowKit
set_option maxRecDepth 100000
structure RHyR (c : Addr) (h : Bool) (A : Nat → Int) (w : World) (k : Nat) (M : Nat) (wr : World) : Prop where
  upd : Upd c (h || orB (fun i => satH (A i)) k) w wr
  s : Wid wr w.heap.size M false
  e : (M : Int) = dotS A A k
  b : M ≤ k * 1329227995784915872903807060280344576
theorem sg2_self (x : Int) : sg2 x x = false := by unfold sg2; simp
theorem adM_ff (M N : Nat) : adM false false M N = M + N := by unfold adM; rw [if_pos (by decide)]
theorem adS_ff (M N : Nat) : adS false false M N = false := by unfold adS; rw [if_pos (by decide)]
set_option maxHeartbeats 4000000 in
theorem rhypot_any (c : Addr) (h : Bool) (A : Nat → Int) (pa oa ca n : Nat) (w : World) (hc : w.cell? c = some (.bool h)) (hf : w.frozen? c = false) (hn : n ≤ 32)
    (hA : ∀ i, i < n → w.cell? ⟨pa, oa + i, none⟩ = some (.int .i64 (A i))) :
    Calls Tryz.prog 66 #[.pointer (some c), .slice (some ⟨pa, oa, none⟩) n ca] w fun e w' =>
      e = .returned (.int .i64 (hypV A n)) ∧ Upd c (h || hypH A n) w w' := by
  have hcb := World.block_lt_of_cell? w c hc
  have HA := Lib.hid hA
  have HC := Lib.hid hc
  have HF := Lib.hid hf
  have R0 : Hid (RHyR c h A w 0 0 (w.alloc (.cells #[.int .u64 0, .int .u64 0, .bool false] 137))) := by
    refine Lib.hid ⟨?_, ?_, by simp [dotS], by omega⟩
    · rw [show (h || orB (fun i => satH (A i)) 0) = h from by simp [orB]]
      exact Upd.then (Upd.refl hc) (by (repeat (first | with_reducible exact Below.refl _ _ | with_reducible apply Below.drew | (with_reducible refine below_drewN ?_ _) | (with_reducible refine Below.alloc ?_ (by (try simp) <;> omega) _) | (with_reducible refine Below.setCell ?_ (by (try simp) <;> omega) _))))
    · have := Wid.new w 0 false
      rw [show hi64 0 = 0 by decide, show lo64 0 = 0 by decide] at this
      exact this
  clear hA hc hf
  go_enter Tryz.func66, Tryz.ntmps66
  go_upto_region 2 with fail
  generalize w.alloc (.cells #[.int .u64 0, .int .u64 0, .bool false] 137) = W0 at *
  go_wp2_with fail
  go_loopw [6] (fun i wr => ∃ (k M : Nat), k ≤ n ∧ i = .int .i64 k ∧ Hid (RHyR c h A w k M wr)) (fun i _ => n - (intOf i).toNat)
  case atStart => exact ⟨0, 0, Nat.zero_le _, rfl, R0⟩
  case round =>
    obtain ⟨k, M, hk, rfl, R⟩ := hrel
    clear R0
    by_cases hlt : k < n
    · have q1 : decide (k < n) = true := by simpa using hlt
      have q2 : decide ((k : Int) < 64) = true := by simp; omega
      have a0 := HA.out k hlt
      have u := R.out.upd
      have ra : wr.cell? ⟨pa, oa + k, none⟩ = some (.int .i64 (A k)) := (u.cell (World.block_lt_of_cell? w _ a0) (ne_of_cells HC.out a0)).trans a0
      have rc : wr.cell? c = some (.bool (h || orB (fun i => satH (A i)) k)) := u.cellc HC.out
      have rf : wr.frozen? c = false := (u.frozen hcb).trans HF.out
      have hs := R.out.s
      have nS : w.heap.size ≠ c.block := by omega
      obtain ⟨P, hP⟩ : ∃ P, (satV (A k)).natAbs * (satV (A k)).natAbs = P := ⟨_, rfl⟩
      have hPb : P ≤ 1329227995784915872903807060280344576 := by rw [← hP]; exact abs_prod_bd _ _
      have hMb : M ≤ 42535295865117307932921825928971026432 := Nat.le_trans R.out.b (Nat.le_trans (Nat.mul_le_mul_right _ (by omega : k ≤ 32)) (by decide))
      have MU := Lib.hid (fun w => rmul_any (satV (A k)) (satV (A k)) (P : Int) w (satV_bd _).1 (satV_bd _).2 (satV_bd _).1 (satV_bd _).2 (by rw [← hP]; simp))
      rw [sg2_self] at MU
      have AD := Lib.hid (fun w => radd_any M P false false w (by omega))
      rw [adM_ff, adS_ff] at AD
      have HE := Lib.hid (show ((M + P : Nat) : Int) = dotS A A (k + 1) ∧ M + P ≤ (k + 1) * 1329227995784915872903807060280344576 by
        refine ⟨?_, ?_⟩
        · have e2 : ((P : Nat) : Int) = satV (A k) * satV (A k) := by rw [← hP]; exact Int.natAbs_mul_self
          simp only [dotS]
          rw [Int.natCast_add, R.out.e, e2]
        · have := R.out.b; omega)
      obtain ⟨N, hN⟩ : ∃ N, M + P = N := ⟨_, rfl⟩
      rw [hN] at AD HE
      obtain ⟨x, hx⟩ : ∃ x, satV (A k) = x := ⟨_, rfl⟩
      rw [hx] at MU
      obtain ⟨H1, hH1⟩ : ∃ y, (h || orB (fun i => satH (A i)) k) = y := ⟨_, rfl⟩
      obtain ⟨H2, hH2⟩ : ∃ y, (H1 || satH (A k)) = y := ⟨_, rfl⟩
      rw [hH1] at rc u
      have SA := Lib.hid (rsat_any c H1 (A k) wr rc rf)
      rw [hx, hH2] at SA
      have EK := Lib.hid (And.intro hH1 hH2)
      have U2 := Lib.hid (u.trans (Upd.set c H2 wr))
      have S2 : Hid (Wid (wr.setCell c (.bool H2)) w.heap.size M false) := Lib.hid (hs.other nS _)
      clear u hs hP hPb hMb hN a0 rc rf R hx hH1 hH2
      go_upto_region 6 with (go_at_call 76; (refine SA.out.mono ?_); rintro e w1 ⟨rfl, rfl⟩)
      generalize wr.setCell c (.bool H2) = W2 at *
      clear SA
      obtain ⟨⟨s0, s1, s2⟩, _⟩ := S2.out.c
      refine wp_region_M (fun w' => w'.cell? ⟨w.heap.size, 0, none⟩ = some (.int .u64 (hi64 (M : Int))) ∧ w'.cell? ⟨w.heap.size, 1, none⟩ = some (.int .u64 (lo64 (M : Int))) ∧ w'.cell? ⟨w.heap.size, 2, none⟩ = some (.bool false)) 5 (by kernel_rfl) ?_ (fun hHeld => ?_)
      · exact ⟨s0, s1, s2⟩
      refine wpAnyM_take 0 (v := ?_) rfl (by kernel_rfl) (fun _ _ _ h => h) (Or.inl ⟨by rfl, ?_⟩) (by assumption) ?_
      rotate_left
      · (intro wx hSw; obtain ⟨h0, h1, h2⟩ := hSw; go_simp; (try with_reducible rfl))
      (try simp only [Act.put, nA, nB, nC])
      refine wpAnyM_take 1 (v := ?_) rfl (by kernel_rfl) (fun _ _ _ h => h) (Or.inl ⟨by rfl, ?_⟩) (by assumption) ?_
      rotate_left
      · (intro wx hSw; (try dsimp only at hSw); go_simp; (try with_reducible rfl))
      (try simp only [Act.put, nA, nB, nC])
      refine wpAnyM_take 2 (v := ?_) rfl (by kernel_rfl) (fun _ _ _ h => h) (Or.inl ⟨by rfl, ?_⟩) (by assumption) ?_
      rotate_left
      · (intro wx hSw; (try dsimp only at hSw); go_simp; (try with_reducible rfl))
      (try simp only [Act.put, nA, nB, nC])
      refine wpAnyM_oneS 3 rfl (by kernel_rfl) (fun K hK => ?_)
      go_simp
      (refine (MU.out _).mono ?_); rintro e w3 ⟨rfl, hb3⟩; have U3 := Lib.hid (U2.out.drew.then hb3); have S3 := Lib.hid (Wid.below (w := W2.drew) S2.out hb3); clear hb3
      (try dsimp only)
      (try simp only [Act.put, nA, nB, nC])
      clear hHeld
      refine hK.out _ _ ?_ (fun hHeld => ?_)
      · exact S3.out.c.1
      clear hK K
      (try simp only [Act.put, nA, nB, nC])
      refine wpAnyM_oneS 4 rfl (by kernel_rfl) (fun K hK => ?_)
      go_simp
      (refine (AD.out _).mono ?_); rintro e w4 ⟨rfl, hb4⟩; have U4 := Lib.hid (U3.out.then hb4); have S4 := Lib.hid (S3.out.below hb4); obtain ⟨_, y0, y1, y2⟩ := S4.out.c; obtain ⟨x0, x1, x2⟩ := S4.out.c.1; clear hb4
      (try dsimp only)
      (try simp only [Act.put, nA, nB, nC])
      clear hHeld
      refine hK.out _ _ ?_ (fun hHeld => ?_)
      · exact S4.out.c.1
      clear hK K
      (try simp only [Act.put, nA, nB, nC])
      refine wpAnyM_one 5 rfl (by kernel_rfl) (fun K hK => ?_)
      go_simp
      refine hK.out _ _ (.inl (by kernel_rfl)) (fun _ => ?_)
      clear hK K
      (try simp only [Act.put, nA, nB, nC])
      refine wpAnyM_done (by kernel_rfl) ?_ _
      (try clear hHeld)
      have S5 := Lib.hid (S4.out.set (N : Int) false)
      go_wp2_with fail
      go_roundw
      case rel =>
        refine ⟨k + 1, N, by omega, by go_num, Lib.hid ⟨?_, S5.out, HE.out.1, HE.out.2⟩⟩
        rw [show (h || orB (fun i => satH (A i)) (k + 1)) = H2 from by rw [← EK.out.2, ← EK.out.1]; simp [orB, Bool.or_assoc]]
        exact ((U4.out.setCell (Nat.le_refl _) _).setCell (Nat.le_refl _) _).setCell (Nat.le_refl _) _
      case measure => simp [intOf]; omega
    · have hkn : k = n := by omega
      subst hkn
      have q1 : decide (k < k) = false := by simp
      have u := R.out.upd
      have hMb : M ≤ 42535295865117307932921825928971026432 := Nat.le_trans R.out.b (Nat.le_trans (Nat.mul_le_mul_right _ (by omega : k ≤ 32)) (by decide))
      obtain ⟨H1, hH1⟩ : ∃ y, (h || orB (fun i => satH (A i)) k) = y := ⟨_, rfl⟩
      rw [hH1] at u
      have rc : wr.cell? c = some (.bool H1) := u.cellc HC.out
      have rf : wr.frozen? c = false := (u.frozen hcb).trans HF.out
      obtain ⟨⟨s0, s1, s2⟩, _⟩ := R.out.s.c
      have RT := Lib.hid (fun w => rroot_any M w (by omega))
      have ER := Lib.hid (show hypV A k = satV ((rootV M : Nat) : Int) ∧ (h || hypH A k) = (H1 || satH ((rootV M : Nat) : Int)) by
        unfold hypV hypH
        rw [← R.out.e, Int.toNat_natCast, ← hH1, Bool.or_assoc]
        exact ⟨rfl, rfl⟩)
      have HU := Lib.hid u
      have hwr := HU.out.size
      obtain ⟨V, hV⟩ : ∃ V, rootV M = V := ⟨_, rfl⟩
      rw [hV] at RT ER
      clear u hMb hV hH1 R
      go_wp2_with fail
      refine (RT.out _).mono ?_; rintro e w5 ⟨rfl, hb5⟩
      go_wp2_with fail
      refine (rend2_any c H1 V false _ ((hb5.cell (by omega)).trans rc) ((hb5.frozen (by omega)).trans rf)).mono ?_; rintro e w6 ⟨rfl, hu6⟩
      go_wp2_with fail
      go_ret
      rw [ER.out.1, ER.out.2]
      exact ⟨rfl, (HU.out.then hb5).trans hu6⟩
end Go.Proofs.YtgfklheepkgedaaGreat
