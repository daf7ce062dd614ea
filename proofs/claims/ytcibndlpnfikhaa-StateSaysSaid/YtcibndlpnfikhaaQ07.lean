/- Contracts of the program's functions and plain laws, part 7: they hold for all arguments. -/
import Derived.Test.YtcibndlpnfikhaaQ06
import Derived.Test.YtcibndlpnfikhaaQ03
import Derived.Test.YtcibndlpnfikhaaQ02
import Derived.Test.YtcibndlpnfikhaaQ04
/- Contract of the reference's root: bit by bit. -/
namespace Go.Proofs.Ytcibndlpnfikhaa
open Go.RowKit
open Go (bits)
set_option maxRecDepth 100000
/-- The reference's root behind n of 64 bits. -/
def rfR (A : Nat) : Nat → Nat | 0 => 0 | n + 1 => if (rfR A n + 2 ^ (63 - n)) * (rfR A n + 2 ^ (63 - n)) ≤ A then rfR A n + 2 ^ (63 - n) else rfR A n
theorem rfR_inv (A : Nat) (hA : A < 2 ^ 128) : ∀ n, n ≤ 64 → (∃ q, rfR A n = q * 2 ^ (64 - n)) ∧ rfR A n * rfR A n ≤ A ∧ A < (rfR A n + 2 ^ (64 - n)) * (rfR A n + 2 ^ (64 - n))
  | 0, _ => ⟨⟨0, by simp [rfR]⟩, by simp [rfR], by simp only [rfR, Nat.zero_add, Nat.sub_zero]; rw [← Nat.pow_add]; exact hA⟩
  | n + 1, hn => by
    obtain ⟨⟨q, hq⟩, h1, h2⟩ := rfR_inv A hA n (by omega)
    have e : 64 - n = (63 - n) + 1 := by omega
    rw [e, Nat.pow_succ] at hq h2
    rw [show 64 - (n + 1) = 63 - n by omega]
    simp only [rfR]
    generalize 2 ^ (63 - n) = p at *
    by_cases h : (rfR A n + p) * (rfR A n + p) ≤ A
    · rw [if_pos h]
      refine ⟨⟨2 * q + 1, by rw [hq]; grind⟩, h, ?_⟩
      rw [show rfR A n + p + p = rfR A n + p * 2 by omega]; exact h2
    · rw [if_neg h]
      exact ⟨⟨2 * q, by rw [hq]; grind⟩, h1, by omega⟩
theorem sq_lt_of {a b A : Nat} (h1 : a * a ≤ A) (h2 : A < (b + 1) * (b + 1)) : a ≤ b := by
  rcases Nat.lt_or_ge b a with h | h
  · have : (b + 1) * (b + 1) ≤ a * a := Nat.mul_le_mul h h
    omega
  · exact h
theorem rfR_root (A : Nat) (hA : A < 2 ^ 126) : rootV A = (if rfR A 64 < A - rfR A 64 * rfR A 64 then rfR A 64 + 1 else rfR A 64) ∧ rfR A 64 * rfR A 64 ≤ A ∧ A - rfR A 64 * rfR A 64 ≤ 2 * rfR A 64 ∧ rfR A 64 < 9223372036854775808 := by
  have hA8 : A < 2 ^ 128 := Nat.lt_trans hA (by decide)
  obtain ⟨_, h1, h2⟩ := rfR_inv A hA8 64 (by decide)
  obtain ⟨R, g1, g2, g3⟩ := rootS_inv A hA8 64 (by decide)
  simp only [show 64 - 64 = 0 from rfl, Nat.pow_zero, Nat.mul_one] at h2 g1 g3
  have e : rfR A 64 = R := Nat.le_antisymm (sq_lt_of h1 g3) (sq_lt_of (by omega) h2)
  have ex : (R + 1) * (R + 1) = R * R + 2 * R + 1 := by grind
  rw [e] at h1 h2 ⊢
  refine ⟨?_, h1, by omega, ?_⟩
  · unfold rootV
    rw [g1, show (rootS A 64).1 = A - R * R by omega]
  · rcases Nat.lt_or_ge R 9223372036854775808 with h | h
    · exact h
    · have h4 : 9223372036854775808 * 9223372036854775808 ≤ R * R := Nat.mul_le_mul h h
      have h5 : (2 : Nat) ^ 126 = 85070591730234615865843651857942052864 := by decide
      omega
theorem rfR_64 (A : Nat) (hA : A < 2 ^ 126) (n : Nat) (hn : n < 64) : rfR A n + 2 ^ (63 - n) < 18446744073709551616 := by
  obtain ⟨⟨q, hq⟩, h1, h2⟩ := rfR_inv A (Nat.lt_trans hA (by decide)) n (by omega)
  have hp : 2 ^ (63 - n) ≤ 2 ^ 63 := Nat.pow_le_pow_right (by decide) (by omega)
  have h6 : (2 : Nat) ^ 63 = 9223372036854775808 := by decide
  rcases Nat.lt_or_ge (rfR A n) 9223372036854775808 with h | h
  · omega
  · have h4 : 9223372036854775808 * 9223372036854775808 ≤ rfR A n * rfR A n := Nat.mul_le_mul h h
    have h5 : (2 : Nat) ^ 126 = 85070591730234615865843651857942052864 := by decide
    omega
theorem rfR_or (A : Nat) (hA : A < 2 ^ 126) (n : Nat) (hn : n < 64) : bits .or .u64 ((rfR A n : Nat) : Int) (2 ^ (63 - n)) = ((rfR A n + 2 ^ (63 - n) : Nat) : Int) := by
  obtain ⟨⟨q, hq⟩, h1, h2⟩ := rfR_inv A (Nat.lt_trans hA (by decide)) n (by omega)
  have hb := rfR_64 A hA n hn
  rw [show 64 - n = (63 - n) + 1 by omega] at hq
  obtain ⟨s, hs⟩ : ∃ s, 63 - n = s := ⟨_, rfl⟩
  rw [hs] at hq hb ⊢
  have hlt : q * 2 ^ (s + 1) < 18446744073709551616 := by rw [← hq]; exact Nat.lt_of_le_of_lt (Nat.le_add_right _ _) hb
  have h := (or_lo q s (Nat.lt_trans hlt (by decide)) (by omega)).1
  have e1 : lo64 ((q * 2 ^ (s + 1) : Nat) : Int) = ((q * 2 ^ (s + 1) : Nat) : Int) := by
    generalize q * 2 ^ (s + 1) = X at *
    unfold lo64; omega
  have e2 : (2 * q + 1) * 2 ^ s = q * 2 ^ (s + 1) + 2 ^ s := by rw [Nat.pow_succ]; grind
  rw [hq]
  rw [e1, e2] at h
  rw [h]
  rw [hq] at hb
  generalize q * 2 ^ (s + 1) + 2 ^ s = Y at *
  unfold lo64; omega
structure RrR (A : Nat) (w wr : World) : Prop where
  below : Below w.heap.size w wr
  a : Wid wr w.heap.size A false
  z : Wid wr (w.heap.size + 1) 0 false
set_option maxHeartbeats 8000000 in
theorem rroot_any (A : Nat) (w : World) (hA : A < 2 ^ 126) :
    Calls Try.prog 61 #[.agg #[.int .u64 (hi64 (A : Int)), .int .u64 (lo64 (A : Int)), .bool false]] w fun e w' =>
      e = .returned (.agg #[.int .u64 (hi64 (rootV A : Nat)), .int .u64 (lo64 (rootV A : Nat)), .bool false]) ∧ Below w.heap.size w w' := by
  have HA := Lib.hid hA
  clear hA
  have R0 : Hid (RrR A w ((w.alloc (.cells #[.int .u64 (hi64 (A : Int)), .int .u64 (lo64 (A : Int)), .bool false] 97)).alloc (.cells #[.int .u64 0, .int .u64 0, .bool false] 97))) := by
    refine Lib.hid ⟨by (repeat (first | with_reducible exact Below.refl _ _ | with_reducible apply Below.drew | (with_reducible refine below_drewN ?_ _) | (with_reducible refine Below.alloc ?_ (by (try simp) <;> omega) _) | (with_reducible refine Below.setCell ?_ (by (try simp) <;> omega) _))), (Wid.new w (A : Int) false).alloc _, ?_⟩
    have h := Wid.new (w.alloc (.cells #[.int .u64 (hi64 (A : Int)), .int .u64 (lo64 (A : Int)), .bool false] 97)) 0 false
    rw [show hi64 0 = 0 by decide, show lo64 0 = 0 by decide] at h
    simpa using h
  go_enter Try.func61, Try.ntmps61
  go_upto_region 1 with fail
  generalize (w.alloc (.cells #[.int .u64 (hi64 (A : Int)), .int .u64 (lo64 (A : Int)), .bool false] 97)).alloc (.cells #[.int .u64 0, .int .u64 0, .bool false] 97) = W0 at *
  go_wp2_with fail
  go_loopw [3, 4] (fun v3 v4 wr => ∃ (k : Nat) (i : Int), k ≤ 64 ∧ i = 63 - (k : Int) ∧ v4 = .int .i64 i ∧ v3 = .int .u64 ((rfR A k : Nat) : Int) ∧ Hid (RrR A w wr)) (fun _ v _ => (intOf v + 1).toNat)
  case atStart => exact ⟨0, 63, by omega, by omega, rfl, rfl, R0⟩
  case round =>
    obtain ⟨k, i, hk, hi, rfl, rfl, R⟩ := hrel
    clear R0
    obtain ⟨bw, ba, zb⟩ := R.out
    obtain ⟨⟨c0, c1, c2⟩, _⟩ := ba.c
    have HR := Lib.hid R.out
    clear R
    by_cases hlt : k < 64
    · obtain ⟨s, hs⟩ : ∃ s, 63 - k = s := ⟨_, rfl⟩
      obtain rfl : i = (s : Int) := by omega
      have s64 : s < 64 := by omega
      have g1 : decide (0 ≤ (s : Int)) = true := by simp
      have f2 : IntKind.u64.wrap (s : Int) = (s : Int) := by rw [IntKind.wrap_u64]; omega
      have f5 := pow_wrap s s64
      have f6 : min s 64 = s := by omega
      have fo := rfR_or A HA.out k hlt
      have fb := rfR_64 A HA.out k hlt
      have fs : rfR A (k + 1) = if (rfR A k + 2 ^ s) * (rfR A k + 2 ^ s) ≤ A then rfR A k + 2 ^ s else rfR A k := by simp only [rfR]; rw [hs]
      rw [hs] at fo fb
      obtain ⟨X, hX⟩ : ∃ X, rfR A k + 2 ^ s = X := ⟨_, rfl⟩
      rw [hX] at fo fb fs
      have HK := Lib.hid (And.intro hk hs)
      have FS := Lib.hid fs
      have FB := Lib.hid fb
      clear hX fs hk hi
      obtain ⟨r, hr⟩ : ∃ r, rfR A k = r := ⟨_, rfl⟩
      rw [hr] at fo ⊢
      have HRR := Lib.hid hr
      clear hr
      by_cases hx : X * X ≤ A
      · have e : ¬ ((A : Int) < (X : Int) * (X : Int)) := by rw [← Int.natCast_mul]; omega
        have dl : decide ((A : Int) < (X : Int) * (X : Int)) = false := by simpa using e
        clear e fb
        go_wp2_with (first | (go_at_call 68; (refine (rproduct_any (X : Int) (X : Int) _ (by omega) (by have := FB.out; omega) (by omega) (by have := FB.out; omega)).mono ?_); rintro e w1 ⟨rfl, rfl⟩) | (go_at_call 67; (refine (rless_any (A : Int) ((X : Int) * (X : Int)) false false _).mono ?_); rintro e w2 ⟨rfl, hb2⟩; (rw [dl]); have R2 : Hid (RrR A w w2) := Lib.hid ⟨Below.after HR.out.below hb2, HR.out.a.below hb2, HR.out.z.below hb2⟩; clear hb2))
        go_roundw
        case rel =>
          refine ⟨k + 1, (s : Int) - 1, by have := HK.out; omega, by have := HK.out; omega, by go_num, ?_, R2⟩
          rw [FS.out, if_pos hx]
        case measure => simp [intOf]
      · have e : ((A : Int) < (X : Int) * (X : Int)) := by rw [← Int.natCast_mul]; omega
        have dl : decide ((A : Int) < (X : Int) * (X : Int)) = true := by simpa using e
        clear e fb
        go_wp2_with (first | (go_at_call 68; (refine (rproduct_any (X : Int) (X : Int) _ (by omega) (by have := FB.out; omega) (by omega) (by have := FB.out; omega)).mono ?_); rintro e w1 ⟨rfl, rfl⟩) | (go_at_call 67; (refine (rless_any (A : Int) ((X : Int) * (X : Int)) false false _).mono ?_); rintro e w2 ⟨rfl, hb2⟩; (rw [dl]); have R2 : Hid (RrR A w w2) := Lib.hid ⟨Below.after HR.out.below hb2, HR.out.a.below hb2, HR.out.z.below hb2⟩; clear hb2))
        go_roundw
        case rel =>
          refine ⟨k + 1, (s : Int) - 1, by have := HK.out; omega, by have := HK.out; omega, by go_num, ?_, R2⟩
          rw [FS.out, if_neg hx, HRR.out]
        case measure => simp [intOf]
    · obtain rfl : k = 64 := by omega
      obtain rfl : i = -1 := by omega
      obtain ⟨y1, y2, y3, y4⟩ := rfR_root A HA.out
      obtain ⟨r, hr⟩ : ∃ r, rfR A 64 = r := ⟨_, rfl⟩
      rw [hr] at y1 y2 y3 y4 ⊢
      have Y1 := Lib.hid y1
      clear hr hlt hk hi y1
      obtain ⟨S, hS⟩ : ∃ S, r * r = S := ⟨_, rfl⟩
      obtain ⟨D, hD⟩ : ∃ D, A - S = D := ⟨_, rfl⟩
      rw [hS] at y2 y3 Y1
      rw [hD] at y3 Y1
      have hA126 : A < 85070591730234615865843651857942052864 := HA.out
      have em : adM false true A S = D := by unfold adM; rw [if_neg (by decide), if_neg (by omega)]; exact hD
      have es : adS false true A S = false := by unfold adS; rw [if_neg (by decide), if_neg (by omega)]
      have er : (r : Int) * (r : Int) = (S : Int) := by rw [← Int.natCast_mul, hS]
      have AD := Lib.hid (fun w => radd_any A S false true w (by omega))
      rw [em, es] at AD
      have ed1 : hi64 (D : Int) = 0 := by unfold hi64; omega
      have ed2 : lo64 (D : Int) = (D : Int) := by unfold lo64; omega
      rw [ed1, ed2] at AD
      have PR := Lib.hid (fun w => rproduct_any (r : Int) (r : Int) w (by omega) (by omega) (by omega) (by omega))
      rw [er] at PR
      have y5 : (r : Int) < 9223372036854775808 := by omega
      have y6 : (0 : Int) ≤ (r : Int) := Int.natCast_nonneg _
      clear hS hD em es er ed1 ed2 hA126 y2 y3 y4
      have g0 : decide ((0 : Int) < 0) = false := by decide
      by_cases hd : r < D
      · have g1 : decide (r < D) = true := by simpa using hd
        have g2 : decide ((r : Int) < (D : Int)) = true := by simp; omega
        have g3 : ((r : Int) + 1 == 0) = false := by simp; omega
        rw [if_pos hd] at Y1
        go_wp2_with (first | (go_at_call 68; (refine (PR.out _).mono ?_); rintro e w1 ⟨rfl, rfl⟩) | (go_at_call 58; (refine (AD.out _).mono ?_); rintro e w2 ⟨rfl, hb2⟩; have R2 := Lib.hid (Below.after HR.out.below hb2); have z2 := (HR.out.z.below hb2).c.2; have hz2 : w.heap.size + 1 < w2.heap.size := (HR.out.z.below hb2).lt; have z3 := (HR.out.z.below hb2).c.1; clear hb2))
        refine bodyPost_ret (v := .agg #[.int .u64 0, .int .u64 ((r : Int) + 1), .bool false]) (by simp [results, Try.results61, go_sem, *]) rfl ⟨?_, ?_⟩
        · rw [Y1.out, show hi64 (((r + 1 : Nat) : Int)) = 0 by unfold hi64; omega, show lo64 (((r + 1 : Nat) : Int)) = (r : Int) + 1 by unfold lo64; omega]
        · have bw := R2.out
          (repeat (first | exact bw | (refine Below.alloc ?_ (by (try simp); have := bw.size; omega) _) | (refine Below.setCell ?_ (by (try simp) <;> omega) _)))
      · have g1 : decide (r < D) = false := by simpa using hd
        have g2 : decide ((r : Int) < (D : Int)) = false := by simp; omega
        have g3 : ((r : Int) == 0) = decide (r = 0) := by rw [Bool.eq_iff_iff]; simp
        rw [if_neg hd] at Y1
        go_wp2_with (first | (go_at_call 68; (refine (PR.out _).mono ?_); rintro e w1 ⟨rfl, rfl⟩) | (go_at_call 58; (refine (AD.out _).mono ?_); rintro e w2 ⟨rfl, hb2⟩; have R2 := Lib.hid (Below.after HR.out.below hb2); have z2 := (HR.out.z.below hb2).c.2; have hz2 : w.heap.size + 1 < w2.heap.size := (HR.out.z.below hb2).lt; have z3 := (HR.out.z.below hb2).c.1; clear hb2))
        refine bodyPost_ret (v := .agg #[.int .u64 0, .int .u64 (r : Int), .bool false]) (by simp [results, Try.results61, go_sem, *]) rfl ⟨?_, ?_⟩
        · rw [Y1.out, show hi64 (((r : Nat) : Int)) = 0 by unfold hi64; omega, show lo64 (((r : Nat) : Int)) = (r : Int) by unfold lo64; omega]
        · have bw := R2.out
          (repeat (first | exact bw | (refine Below.alloc ?_ (by (try simp); have := bw.size; omega) _) | (refine Below.setCell ?_ (by (try simp) <;> omega) _)))
end Go.Proofs.Ytcibndlpnfikhaa
/- Contract of the reference's Hypot. -/
namespace Go.Proofs.Ytcibndlpnfikhaa
open Go.RowKit
set_option maxRecDepth 100000
structure RHyR (c : Addr) (h : Bool) (A : Nat → Int) (w : World) (k : Nat) (M : Nat) (wr : World) : Prop where
  upd : Upd c (h || orB (fun i => satH (A i)) k) w wr
  s : Wid wr w.heap.size M false
  e : (M : Int) = dotS A A k
  b : M ≤ k * 1329227995784915872903807060280344576
theorem sg2_self (x : Int) : sg2 x x = false := by unfold sg2; simp
theorem adM_ff (M N : Nat) : adM false false M N = M + N := by unfold adM; rw [if_pos (by decide)]
theorem adS_ff (M N : Nat) : adS false false M N = false := by unfold adS; rw [if_pos (by decide)]
set_option maxHeartbeats 4000000 in
theorem rhypot_any (c : Addr) (h : Bool) (A : Nat → Int) (pa oa ca n : Nat) (w : World) (hc : w.cell? c = some (.bool h)) (hf : w.frozen? c = false) (hn : n ≤ 32)
    (hA : ∀ i, i < n → w.cell? ⟨pa, oa + i, none⟩ = some (.int .i64 (A i))) :
    Calls Try.prog 40 #[.pointer (some c), .slice (some ⟨pa, oa, none⟩) n ca] w fun e w' =>
      e = .returned (.int .i64 (hypV A n)) ∧ Upd c (h || hypH A n) w w' := by
  have hcb := World.block_lt_of_cell? w c hc
  have HA := Lib.hid hA
  have HC := Lib.hid hc
  have HF := Lib.hid hf
  have R0 : Hid (RHyR c h A w 0 0 (w.alloc (.cells #[.int .u64 0, .int .u64 0, .bool false] 97))) := by
    refine Lib.hid ⟨?_, ?_, by simp [dotS], by omega⟩
    · rw [show (h || orB (fun i => satH (A i)) 0) = h from by simp [orB]]
      exact Upd.then (Upd.refl hc) (by (repeat (first | with_reducible exact Below.refl _ _ | with_reducible apply Below.drew | (with_reducible refine below_drewN ?_ _) | (with_reducible refine Below.alloc ?_ (by (try simp) <;> omega) _) | (with_reducible refine Below.setCell ?_ (by (try simp) <;> omega) _))))
    · have := Wid.new w 0 false
      rw [show hi64 0 = 0 by decide, show lo64 0 = 0 by decide] at this
      exact this
  clear hA hc hf
  go_enter Try.func40, Try.ntmps40
  go_upto_region 2 with fail
  generalize w.alloc (.cells #[.int .u64 0, .int .u64 0, .bool false] 97) = W0 at *
  go_wp2_with fail
  go_loopw [6] (fun i wr => ∃ (k M : Nat), k ≤ n ∧ i = .int .i64 k ∧ Hid (RHyR c h A w k M wr)) (fun i _ => n - (intOf i).toNat)
  case atStart => exact ⟨0, 0, Nat.zero_le _, rfl, R0⟩
  case round =>
    obtain ⟨k, M, hk, rfl, R⟩ := hrel
    clear R0
    by_cases hlt : k < n
    · have q1 : decide (k < n) = true := by simpa using hlt
      have q2 : decide ((k : Int) < 64) = true := by simp; omega
      have a0 := HA.out k hlt
      have u := R.out.upd
      have ra : wr.cell? ⟨pa, oa + k, none⟩ = some (.int .i64 (A k)) := (u.cell (World.block_lt_of_cell? w _ a0) (ne_of_cells HC.out a0)).trans a0
      have rc : wr.cell? c = some (.bool (h || orB (fun i => satH (A i)) k)) := u.cellc HC.out
      have rf : wr.frozen? c = false := (u.frozen hcb).trans HF.out
      have hs := R.out.s
      have nS : w.heap.size ≠ c.block := by omega
      obtain ⟨P, hP⟩ : ∃ P, (satV (A k)).natAbs * (satV (A k)).natAbs = P := ⟨_, rfl⟩
      have hPb : P ≤ 1329227995784915872903807060280344576 := by rw [← hP]; exact abs_prod_bd _ _
      have hMb : M ≤ 42535295865117307932921825928971026432 := Nat.le_trans R.out.b (Nat.le_trans (Nat.mul_le_mul_right _ (by omega : k ≤ 32)) (by decide))
      have MU := Lib.hid (fun w => rmul_any (satV (A k)) (satV (A k)) (P : Int) w (satV_bd _).1 (satV_bd _).2 (satV_bd _).1 (satV_bd _).2 (by rw [← hP]; simp))
      rw [sg2_self] at MU
      have AD := Lib.hid (fun w => radd_any M P false false w (by omega))
      rw [adM_ff, adS_ff] at AD
      have HE := Lib.hid (show ((M + P : Nat) : Int) = dotS A A (k + 1) ∧ M + P ≤ (k + 1) * 1329227995784915872903807060280344576 by
        refine ⟨?_, ?_⟩
        · have e2 : ((P : Nat) : Int) = satV (A k) * satV (A k) := by rw [← hP]; exact Int.natAbs_mul_self
          simp only [dotS]
          rw [Int.natCast_add, R.out.e, e2]
        · have := R.out.b; omega)
      obtain ⟨N, hN⟩ : ∃ N, M + P = N := ⟨_, rfl⟩
      rw [hN] at AD HE
      obtain ⟨x, hx⟩ : ∃ x, satV (A k) = x := ⟨_, rfl⟩
      rw [hx] at MU
      obtain ⟨H1, hH1⟩ : ∃ y, (h || orB (fun i => satH (A i)) k) = y := ⟨_, rfl⟩
      obtain ⟨H2, hH2⟩ : ∃ y, (H1 || satH (A k)) = y := ⟨_, rfl⟩
      rw [hH1] at rc u
      have SA := Lib.hid (rsat_any c H1 (A k) wr rc rf)
      rw [hx, hH2] at SA
      have EK := Lib.hid (And.intro hH1 hH2)
      have U2 := Lib.hid (u.trans (Upd.set c H2 wr))
      have S2 : Hid (Wid (wr.setCell c (.bool H2)) w.heap.size M false) := Lib.hid (hs.other nS _)
      clear u hs hP hPb hMb hN a0 rc rf R hx hH1 hH2
      go_upto_region 6 with (go_at_call 45; (refine SA.out.mono ?_); rintro e w1 ⟨rfl, rfl⟩)
      generalize wr.setCell c (.bool H2) = W2 at *
      clear SA
      obtain ⟨⟨s0, s1, s2⟩, _⟩ := S2.out.c
      refine wp_region_M (fun w' => w'.cell? ⟨w.heap.size, 0, none⟩ = some (.int .u64 (hi64 (M : Int))) ∧ w'.cell? ⟨w.heap.size, 1, none⟩ = some (.int .u64 (lo64 (M : Int))) ∧ w'.cell? ⟨w.heap.size, 2, none⟩ = some (.bool false)) 5 (by kernel_rfl) ?_ (fun hHeld => ?_)
      · exact ⟨s0, s1, s2⟩
      refine wpAnyM_take 0 (v := ?_) rfl (by kernel_rfl) (fun _ _ _ h => h) (Or.inl ⟨by rfl, ?_⟩) (by assumption) ?_
      rotate_left
      · (intro wx hSw; obtain ⟨h0, h1, h2⟩ := hSw; go_simp; (try with_reducible rfl))
      (try simp only [Act.put, List.setIfInBounds_toArray, List.set_cons_zero, List.set_cons_succ])
      refine wpAnyM_take 1 (v := ?_) rfl (by kernel_rfl) (fun _ _ _ h => h) (Or.inl ⟨by rfl, ?_⟩) (by assumption) ?_
      rotate_left
      · (intro wx hSw; (try dsimp only at hSw); go_simp; (try with_reducible rfl))
      (try simp only [Act.put, List.setIfInBounds_toArray, List.set_cons_zero, List.set_cons_succ])
      refine wpAnyM_take 2 (v := ?_) rfl (by kernel_rfl) (fun _ _ _ h => h) (Or.inl ⟨by rfl, ?_⟩) (by assumption) ?_
      rotate_left
      · (intro wx hSw; (try dsimp only at hSw); go_simp; (try with_reducible rfl))
      (try simp only [Act.put, List.setIfInBounds_toArray, List.set_cons_zero, List.set_cons_succ])
      refine wpAnyM_oneS 3 rfl (by kernel_rfl) (fun K hK => ?_)
      go_simp
      (refine (MU.out _).mono ?_); rintro e w3 ⟨rfl, hb3⟩; have U3 := Lib.hid (U2.out.drew.then hb3); have S3 := Lib.hid (Wid.below (w := W2.drew) S2.out hb3); clear hb3
      (try dsimp only)
      (try simp only [Act.put, List.setIfInBounds_toArray, List.set_cons_zero, List.set_cons_succ])
      clear hHeld
      refine hK.out _ _ ?_ (fun hHeld => ?_)
      · exact S3.out.c.1
      clear hK K
      (try simp only [Act.put, List.setIfInBounds_toArray, List.set_cons_zero, List.set_cons_succ])
      refine wpAnyM_oneS 4 rfl (by kernel_rfl) (fun K hK => ?_)
      go_simp
      (refine (AD.out _).mono ?_); rintro e w4 ⟨rfl, hb4⟩; have U4 := Lib.hid (U3.out.then hb4); have S4 := Lib.hid (S3.out.below hb4); obtain ⟨_, y0, y1, y2⟩ := S4.out.c; obtain ⟨x0, x1, x2⟩ := S4.out.c.1; clear hb4
      (try dsimp only)
      (try simp only [Act.put, List.setIfInBounds_toArray, List.set_cons_zero, List.set_cons_succ])
      clear hHeld
      refine hK.out _ _ ?_ (fun hHeld => ?_)
      · exact S4.out.c.1
      clear hK K
      (try simp only [Act.put, List.setIfInBounds_toArray, List.set_cons_zero, List.set_cons_succ])
      refine wpAnyM_one 5 rfl (by kernel_rfl) (fun K hK => ?_)
      go_simp
      refine hK.out _ _ (.inl (by kernel_rfl)) (fun _ => ?_)
      clear hK K
      (try simp only [Act.put, List.setIfInBounds_toArray, List.set_cons_zero, List.set_cons_succ])
      refine wpAnyM_done (by kernel_rfl) ?_ _
      (try clear hHeld)
      have S5 := Lib.hid (S4.out.set (N : Int) false)
      go_wp2_with fail
      go_roundw
      case rel =>
        refine ⟨k + 1, N, by omega, by go_num, Lib.hid ⟨?_, S5.out, HE.out.1, HE.out.2⟩⟩
        rw [show (h || orB (fun i => satH (A i)) (k + 1)) = H2 from by rw [← EK.out.2, ← EK.out.1]; simp [orB, Bool.or_assoc]]
        exact ((U4.out.setCell (Nat.le_refl _) _).setCell (Nat.le_refl _) _).setCell (Nat.le_refl _) _
      case measure => simp [intOf]; omega
    · have hkn : k = n := by omega
      subst hkn
      have q1 : decide (k < k) = false := by simp
      have u := R.out.upd
      have hMb : M ≤ 42535295865117307932921825928971026432 := Nat.le_trans R.out.b (Nat.le_trans (Nat.mul_le_mul_right _ (by omega : k ≤ 32)) (by decide))
      obtain ⟨H1, hH1⟩ : ∃ y, (h || orB (fun i => satH (A i)) k) = y := ⟨_, rfl⟩
      rw [hH1] at u
      have rc : wr.cell? c = some (.bool H1) := u.cellc HC.out
      have rf : wr.frozen? c = false := (u.frozen hcb).trans HF.out
      obtain ⟨⟨s0, s1, s2⟩, _⟩ := R.out.s.c
      have RT := Lib.hid (fun w => rroot_any M w (by omega))
      have ER := Lib.hid (show hypV A k = satV ((rootV M : Nat) : Int) ∧ (h || hypH A k) = (H1 || satH ((rootV M : Nat) : Int)) by
        unfold hypV hypH
        rw [← R.out.e, Int.toNat_natCast, ← hH1, Bool.or_assoc]
        exact ⟨rfl, rfl⟩)
      have HU := Lib.hid u
      have hwr := HU.out.size
      obtain ⟨V, hV⟩ : ∃ V, rootV M = V := ⟨_, rfl⟩
      rw [hV] at RT ER
      clear u hMb hV hH1 R
      go_wp2_with fail
      refine (RT.out _).mono ?_; rintro e w5 ⟨rfl, hb5⟩
      go_wp2_with fail
      refine (rend2_any c H1 V false _ ((hb5.cell (by omega)).trans rc) ((hb5.frozen (by omega)).trans rf)).mono ?_; rintro e w6 ⟨rfl, hu6⟩
      go_wp2_with fail
      go_ret
      rw [ER.out.1, ER.out.2]
      exact ⟨rfl, (HU.out.then hb5).trans hu6⟩
end Go.Proofs.Ytcibndlpnfikhaa
/- Contracts of the reference's quaternions: sat, One, Unit. -/
namespace Go.Proofs.Ytcibndlpnfikhaa
open Go.RowKit
set_option maxRecDepth 100000
theorem irq : (Try.prog.info? 30).map (·.size) = some 4 := by kernel_rfl
theorem arr4 (f : Nat → Int) : (#[.int .i64 (f 0), .int .i64 (f 1), .int .i64 (f 2), .int .i64 (f 3)] : Array Value) = arrv 4 f := by kernel_rfl
theorem rq_slc (w : World) (G : Nat → Int) (T : Nat) : ∀ i, i < 4 → (w.alloc (.cells #[.int .i64 (G 0), .int .i64 (G 1), .int .i64 (G 2), .int .i64 (G 3)] T)).cell? ⟨w.heap.size, 0 + i, none⟩ = some (.int .i64 (G i)) := by
  intro i hi
  obtain rfl | rfl | rfl | rfl : i = 0 ∨ i = 1 ∨ i = 2 ∨ i = 3 := by omega
  all_goals simp [go_sem]
theorem rqone_any (w : World) : Calls Try.prog 39 #[] w fun e w' => e = .returned (.agg (arrv 4 oneQ)) ∧ Below w.heap.size w w' := by
  go_enter Try.func39, Try.ntmps39
  go_wp2_with fail
  refine bodyPost_ret (v := .agg (arrv 4 oneQ)) (by rw [← oq4]; simp [results, Try.results39, go_sem, *]) rfl ⟨rfl, by (repeat (first | with_reducible exact Below.refl _ _ | with_reducible apply Below.drew | (with_reducible refine below_drewN ?_ _) | (with_reducible refine Below.alloc ?_ (by (try simp) <;> omega) _) | (with_reducible refine Below.setCell ?_ (by (try simp) <;> omega) _)))⟩
structure RqsR (c : Addr) (h : Bool) (A : Nat → Int) (w wr : World) : Prop where
  upd : Upd c h w wr
  blk : Blk wr w.heap.size 30 4 A
  res : Blk wr (w.heap.size + 1) 30 4 (fun _ => 0)
theorem RqsR.hit {c : Addr} {h h' : Bool} {A : Nat → Int} {w wr w' : World} (s : RqsR c h A w wr) (hc : c.block < w.heap.size) (e : wr.setCell c (.bool h') = w') : RqsR c h' A w w' := by
  subst e
  exact ⟨s.upd.trans (Upd.set c h' wr), s.blk.upd (Upd.set c h' wr) (by omega), s.res.upd (Upd.set c h' wr) (by omega)⟩
set_option maxHeartbeats 2000000 in
theorem rqsat_any (c : Addr) (h : Bool) (A : Nat → Int) (w : World) (hc : w.cell? c = some (.bool h)) (hf : w.frozen? c = false) :
    Calls Try.prog 38 #[.pointer (some c), .agg (arrv 4 A)] w fun e w' => e = .returned (.agg (arrv 4 (satA A))) ∧ Upd c (h || orB (fun i => satH (A i)) 4) w w' := by
  have hcb := World.block_lt_of_cell? w c hc
  have S0 : RqsR c h A w ((w.alloc (.cells (arrv 4 A) 30)).alloc (.cells #[.int .i64 0, .int .i64 0, .int .i64 0, .int .i64 0] 30)) :=
    ⟨Upd.then (Upd.refl hc) (by (repeat (first | with_reducible exact Below.refl _ _ | with_reducible apply Below.drew | (with_reducible refine below_drewN ?_ _) | (with_reducible refine Below.alloc ?_ (by (try simp) <;> omega) _) | (with_reducible refine Below.setCell ?_ (by (try simp) <;> omega) _)))), Blk.alloc (Blk.new w _ 4 A) _, by rw [zq4]; exact Blk.new1 w _ _ 4 _⟩
  have HC := Lib.hid hc
  have HF := Lib.hid hf
  clear hc hf
  go_enter Try.func38, Try.ntmps38
  go_upto_region 1 with fail
  generalize (w.alloc (.cells (arrv 4 A) 30)).alloc (.cells #[.int .i64 0, .int .i64 0, .int .i64 0, .int .i64 0] 30) = W0 at *
  have S1 := Lib.hid (RqsR.mk (w := w) S0.upd.drew S0.blk S0.res)
  have SA := Lib.hid (fun (g : Bool) (a : Int) (x : World) (s : RqsR c g A w x) => rsat_any c g a x (s.upd.cellc HC.out) ((s.upd.frozen hcb).trans HF.out))
  have EF := Lib.hid (show (h || orB (fun i => satH (A i)) 4) = (h || satH (A 0) || satH (A 1) || satH (A 2) || satH (A 3)) by simp [orB, Bool.or_assoc])
  clear S0
  refine wp_region_M (fun w' => Blk w' w.heap.size 30 4 A) 25 (by kernel_rfl) ?_ (fun hHeld => ?_)
  · exact S1.out.blk
  refine wpAnyM_take 0 (v := ?_) rfl (by kernel_rfl) (fun _ _ _ h => h) (Or.inl ⟨by rfl, ?_⟩) (by assumption) ?_
  rotate_left
  · (intro wx hSw; (try dsimp only at hSw); go_simp; (try with_reducible rfl))
  (try simp only [Act.put, List.setIfInBounds_toArray, List.set_cons_zero, List.set_cons_succ])
  refine wpAnyM_take 1 (v := ?_) rfl (by kernel_rfl) (fun _ _ _ h => h) (Or.inl ⟨by rfl, ?_⟩) (by assumption) ?_
  rotate_left
  · (intro wx hSw; (try dsimp only at hSw); go_simp; (try with_reducible rfl))
  (try simp only [Act.put, List.setIfInBounds_toArray, List.set_cons_zero, List.set_cons_succ])
  refine wpAnyM_take 2 (v := ?_) rfl (by kernel_rfl) (fun _ _ _ h => h) (Or.inl ⟨by rfl, ?_⟩) (by assumption) ?_
  rotate_left
  · (intro wx hSw; (try dsimp only at hSw); go_simp; (try with_reducible rfl))
  (try simp only [Act.put, List.setIfInBounds_toArray, List.set_cons_zero, List.set_cons_succ])
  refine wpAnyM_take 3 (v := ?_) rfl (by kernel_rfl) (fun _ _ _ h => h) (Or.inl ⟨by rfl, ?_⟩) (by assumption) ?_
  rotate_left
  · (intro wx hSw; (try dsimp only at hSw); go_simp; (try with_reducible rfl))
  (try simp only [Act.put, List.setIfInBounds_toArray, List.set_cons_zero, List.set_cons_succ])
  refine wpAnyM_take 4 (v := ?_) rfl (by kernel_rfl) (fun _ _ _ h => h) (Or.inl ⟨by rfl, ?_⟩) (by assumption) ?_
  rotate_left
  · (intro wx hSw; have q0 := Blk.cell (i := 0) hSw (by decide); go_simp; (try with_reducible rfl))
  (try simp only [Act.put, List.setIfInBounds_toArray, List.set_cons_zero, List.set_cons_succ])
  refine wpAnyM_take 6 (v := ?_) rfl (by kernel_rfl) (fun _ _ _ h => h) (Or.inl ⟨by rfl, ?_⟩) (by assumption) ?_
  rotate_left
  · (intro wx hSw; (try dsimp only at hSw); go_simp; (try with_reducible rfl))
  (try simp only [Act.put, List.setIfInBounds_toArray, List.set_cons_zero, List.set_cons_succ])
  refine wpAnyM_take 7 (v := ?_) rfl (by kernel_rfl) (fun _ _ _ h => h) (Or.inl ⟨by rfl, ?_⟩) (by assumption) ?_
  rotate_left
  · (intro wx hSw; (try dsimp only at hSw); go_simp; (try with_reducible rfl))
  (try simp only [Act.put, List.setIfInBounds_toArray, List.set_cons_zero, List.set_cons_succ])
  refine wpAnyM_take 8 (v := ?_) rfl (by kernel_rfl) (fun _ _ _ h => h) (Or.inl ⟨by rfl, ?_⟩) (by assumption) ?_
  rotate_left
  · (intro wx hSw; (try dsimp only at hSw); go_simp; (try with_reducible rfl))
  (try simp only [Act.put, List.setIfInBounds_toArray, List.set_cons_zero, List.set_cons_succ])
  refine wpAnyM_take 9 (v := ?_) rfl (by kernel_rfl) (fun _ _ _ h => h) (Or.inl ⟨by rfl, ?_⟩) (by assumption) ?_
  rotate_left
  · (intro wx hSw; (try dsimp only at hSw); go_simp; (try with_reducible rfl))
  (try simp only [Act.put, List.setIfInBounds_toArray, List.set_cons_zero, List.set_cons_succ])
  refine wpAnyM_take 10 (v := ?_) rfl (by kernel_rfl) (fun _ _ _ h => h) (Or.inl ⟨by rfl, ?_⟩) (by assumption) ?_
  rotate_left
  · (intro wx hSw; have q0 := Blk.cell (i := 1) hSw (by decide); go_simp; (try with_reducible rfl))
  (try simp only [Act.put, List.setIfInBounds_toArray, List.set_cons_zero, List.set_cons_succ])
  refine wpAnyM_take 12 (v := ?_) rfl (by kernel_rfl) (fun _ _ _ h => h) (Or.inl ⟨by rfl, ?_⟩) (by assumption) ?_
  rotate_left
  · (intro wx hSw; (try dsimp only at hSw); go_simp; (try with_reducible rfl))
  (try simp only [Act.put, List.setIfInBounds_toArray, List.set_cons_zero, List.set_cons_succ])
  refine wpAnyM_take 13 (v := ?_) rfl (by kernel_rfl) (fun _ _ _ h => h) (Or.inl ⟨by rfl, ?_⟩) (by assumption) ?_
  rotate_left
  · (intro wx hSw; (try dsimp only at hSw); go_simp; (try with_reducible rfl))
  (try simp only [Act.put, List.setIfInBounds_toArray, List.set_cons_zero, List.set_cons_succ])
  refine wpAnyM_take 14 (v := ?_) rfl (by kernel_rfl) (fun _ _ _ h => h) (Or.inl ⟨by rfl, ?_⟩) (by assumption) ?_
  rotate_left
  · (intro wx hSw; (try dsimp only at hSw); go_simp; (try with_reducible rfl))
  (try simp only [Act.put, List.setIfInBounds_toArray, List.set_cons_zero, List.set_cons_succ])
  refine wpAnyM_take 15 (v := ?_) rfl (by kernel_rfl) (fun _ _ _ h => h) (Or.inl ⟨by rfl, ?_⟩) (by assumption) ?_
  rotate_left
  · (intro wx hSw; (try dsimp only at hSw); go_simp; (try with_reducible rfl))
  (try simp only [Act.put, List.setIfInBounds_toArray, List.set_cons_zero, List.set_cons_succ])
  refine wpAnyM_take 16 (v := ?_) rfl (by kernel_rfl) (fun _ _ _ h => h) (Or.inl ⟨by rfl, ?_⟩) (by assumption) ?_
  rotate_left
  · (intro wx hSw; have q0 := Blk.cell (i := 2) hSw (by decide); go_simp; (try with_reducible rfl))
  (try simp only [Act.put, List.setIfInBounds_toArray, List.set_cons_zero, List.set_cons_succ])
  refine wpAnyM_take 18 (v := ?_) rfl (by kernel_rfl) (fun _ _ _ h => h) (Or.inl ⟨by rfl, ?_⟩) (by assumption) ?_
  rotate_left
  · (intro wx hSw; (try dsimp only at hSw); go_simp; (try with_reducible rfl))
  (try simp only [Act.put, List.setIfInBounds_toArray, List.set_cons_zero, List.set_cons_succ])
  refine wpAnyM_take 19 (v := ?_) rfl (by kernel_rfl) (fun _ _ _ h => h) (Or.inl ⟨by rfl, ?_⟩) (by assumption) ?_
  rotate_left
  · (intro wx hSw; (try dsimp only at hSw); go_simp; (try with_reducible rfl))
  (try simp only [Act.put, List.setIfInBounds_toArray, List.set_cons_zero, List.set_cons_succ])
  refine wpAnyM_take 20 (v := ?_) rfl (by kernel_rfl) (fun _ _ _ h => h) (Or.inl ⟨by rfl, ?_⟩) (by assumption) ?_
  rotate_left
  · (intro wx hSw; (try dsimp only at hSw); go_simp; (try with_reducible rfl))
  (try simp only [Act.put, List.setIfInBounds_toArray, List.set_cons_zero, List.set_cons_succ])
  refine wpAnyM_take 21 (v := ?_) rfl (by kernel_rfl) (fun _ _ _ h => h) (Or.inl ⟨by rfl, ?_⟩) (by assumption) ?_
  rotate_left
  · (intro wx hSw; (try dsimp only at hSw); go_simp; (try with_reducible rfl))
  (try simp only [Act.put, List.setIfInBounds_toArray, List.set_cons_zero, List.set_cons_succ])
  refine wpAnyM_take 22 (v := ?_) rfl (by kernel_rfl) (fun _ _ _ h => h) (Or.inl ⟨by rfl, ?_⟩) (by assumption) ?_
  rotate_left
  · (intro wx hSw; have q0 := Blk.cell (i := 3) hSw (by decide); go_simp; (try with_reducible rfl))
  (try simp only [Act.put, List.setIfInBounds_toArray, List.set_cons_zero, List.set_cons_succ])
  refine wpAnyM_oneS 5 rfl (by kernel_rfl) (fun K hK => ?_)
  go_simp
  (refine (SA.out _ (A 0) _ S1.out).mono ?_); rintro e w1 ⟨rfl, h1⟩; have S2 := Lib.hid (S1.out.hit hcb h1); clear h1
  (try dsimp only)
  (try simp only [Act.put, List.setIfInBounds_toArray, List.set_cons_zero, List.set_cons_succ])
  clear hHeld
  refine hK.out _ _ ?_ (fun hHeld => ?_)
  · exact S2.out.blk
  clear hK K
  (try simp only [Act.put, List.setIfInBounds_toArray, List.set_cons_zero, List.set_cons_succ])
  refine wpAnyM_oneS 11 rfl (by kernel_rfl) (fun K hK => ?_)
  go_simp
  (refine (SA.out _ (A 1) _ S2.out).mono ?_); rintro e w2 ⟨rfl, h2⟩; have S3 := Lib.hid (S2.out.hit hcb h2); clear h2
  (try dsimp only)
  (try simp only [Act.put, List.setIfInBounds_toArray, List.set_cons_zero, List.set_cons_succ])
  clear hHeld
  refine hK.out _ _ ?_ (fun hHeld => ?_)
  · exact S3.out.blk
  clear hK K
  (try simp only [Act.put, List.setIfInBounds_toArray, List.set_cons_zero, List.set_cons_succ])
  refine wpAnyM_oneS 17 rfl (by kernel_rfl) (fun K hK => ?_)
  go_simp
  (refine (SA.out _ (A 2) _ S3.out).mono ?_); rintro e w3 ⟨rfl, h3⟩; have S4 := Lib.hid (S3.out.hit hcb h3); clear h3
  (try dsimp only)
  (try simp only [Act.put, List.setIfInBounds_toArray, List.set_cons_zero, List.set_cons_succ])
  clear hHeld
  refine hK.out _ _ ?_ (fun hHeld => ?_)
  · exact S4.out.blk
  clear hK K
  (try simp only [Act.put, List.setIfInBounds_toArray, List.set_cons_zero, List.set_cons_succ])
  refine wpAnyM_oneS 23 rfl (by kernel_rfl) (fun K hK => ?_)
  go_simp
  (refine (SA.out _ (A 3) _ S4.out).mono ?_); rintro e w4 ⟨rfl, h4⟩; have S5 := Lib.hid (S4.out.hit hcb h4); have B5 := S5.out.res; clear h4
  (try dsimp only)
  (try simp only [Act.put, List.setIfInBounds_toArray, List.set_cons_zero, List.set_cons_succ])
  clear hHeld
  refine hK.out _ _ ?_ (fun hHeld => ?_)
  · exact S5.out.blk
  clear hK K
  (try simp only [Act.put, List.setIfInBounds_toArray, List.set_cons_zero, List.set_cons_succ])
  refine wpAnyM_take 24 (v := ?_) rfl (by kernel_rfl) (fun _ _ _ h => h) (Or.inl ⟨by rfl, ?_⟩) (by assumption) ?_
  rotate_left
  · (intro wx hSw; go_simp; rw [show (#[.int .i64 (satV (A 0)), .int .i64 (satV (A 1)), .int .i64 (satV (A 2)), .int .i64 (satV (A 3))] : Array Value) = arrv 4 (satA A) from arr4 (satA A)]; (try with_reducible rfl))
  (try simp only [Act.put, List.setIfInBounds_toArray, List.set_cons_zero, List.set_cons_succ])
  refine wpAnyM_one 25 rfl (by kernel_rfl) (fun K hK => ?_)
  go_simp; rw [if_pos (arrv_size _ _), run_storeCells_row _ B5]; go_simp
  refine hK.out _ _ (.inl (by kernel_rfl)) (fun _ => ?_)
  clear hK K
  (try simp only [Act.put, List.setIfInBounds_toArray, List.set_cons_zero, List.set_cons_succ])
  refine wpAnyM_done (by kernel_rfl) ?_ _
  (try clear hHeld)
  go_wp2_with fail
  refine bodyPost_ret (results_cell_row Try.results38 _ _ (w.heap.size + 1) 30 (arrv 4 (satA A)) (0, 0) _ rfl (setRow_heap _ _ _ _ _ _ B5) Try.underlying30 rfl (irq.trans (by rw [arrv_size]))) rfl ⟨rfl, ?_⟩
  rw [EF.out]
  exact S5.out.upd.then' (below_row (Below.refl _ _) (by omega) _)
structure RquR (c : Addr) (h : Bool) (g : Nat → Int) (w wr : World) : Prop where
  upd : Upd c h w wr
  blk : Blk wr w.heap.size 30 4 g
  res : Blk wr (w.heap.size + 1) 30 4 (fun _ => 0)
theorem RquR.upd' {c : Addr} {h h' : Bool} {g : Nat → Int} {w wr w' : World} (s : RquR c h g w wr) (hc : c.block < w.heap.size) (u : Upd c h' wr w') : RquR c h' g w w' :=
  ⟨s.upd.trans u, s.blk.upd u (by omega), s.res.upd u (by omega)⟩
set_option maxHeartbeats 2000000 in
theorem rqunit_any (c : Addr) (h : Bool) (A : Nat → Int) (w : World) (hc : w.cell? c = some (.bool h)) (hf : w.frozen? c = false) :
    Calls Try.prog 26 #[.pointer (some c), .agg (arrv 4 A)] w fun e w' => e = .returned (.agg (arrv 4 (uniV A))) ∧ Upd c (h || uniH A) w w' := by
  have hcb := World.block_lt_of_cell? w c hc
  have S0 : RquR c h A w ((w.alloc (.cells (arrv 4 A) 30)).alloc (.cells #[.int .i64 0, .int .i64 0, .int .i64 0, .int .i64 0] 30)) :=
    ⟨Upd.then (Upd.refl hc) (by (repeat (first | with_reducible exact Below.refl _ _ | with_reducible apply Below.drew | (with_reducible refine below_drewN ?_ _) | (with_reducible refine Below.alloc ?_ (by (try simp) <;> omega) _) | (with_reducible refine Below.setCell ?_ (by (try simp) <;> omega) _)))), Blk.alloc (Blk.new w _ 4 A) _, by rw [zq4]; exact Blk.new1 w _ _ 4 _⟩
  have HC := Lib.hid hc
  have HF := Lib.hid hf
  clear hc hf
  go_enter Try.func26, Try.ntmps26
  go_upto_region 1 with fail
  generalize (w.alloc (.cells (arrv 4 A) 30)).alloc (.cells #[.int .i64 0, .int .i64 0, .int .i64 0, .int .i64 0] 30) = W0 at *
  have P0 := S0.blk
  have H0 := Lib.hid S0
  have SC := Lib.hid (rqsat_any c h A W0 (S0.upd.cellc HC.out) ((S0.upd.frozen hcb).trans HF.out))
  clear S0
  go_upto_region 2 with (first | (refine wpList_load_row rfl 30 _ rfl (w.heap.size) rfl 30 _ (0, 0) _ (P0) Try.underlying30 rfl (irq.trans (by rw [arrv_size])) ?_) | (go_at_call 38; (refine SC.out.mono ?_); rintro e w1 ⟨rfl, hu1⟩; have P1 := P0.upd hu1 (by omega)) | (refine wpList_store_row rfl 30 _ _ rfl (w.heap.size) _ rfl rfl 30 _ (P1) (irq.trans (by rw [arrv_size])) (by rw [arrv_size, arrv_size]) (oneCell_arrv _ _) ?_))
  have S1 := H0.out.upd' hcb hu1
  have S2 : RquR c (h || orB (fun i => satH (A i)) 4) (satA A) w (w1.setRow w.heap.size (arrv 4 (satA A))) :=
    ⟨S1.upd.then' (below_row (Below.refl _ _) (Nat.le_refl _) _), S1.blk.setRow _, S1.res.setRow_other _ (by omega)⟩
  clear S1 SC P0 P1 H0 hu1
  generalize w1.setRow w.heap.size (arrv 4 (satA A)) = W1 at *
  have P2 := S2.blk
  have H2 := Lib.hid S2
  have EZ := zer4_eq (satA A)
  by_cases hz : zer4 (satA A) = true
  · rw [hz] at EZ
    have e1 : uniV A = oneQ := by unfold uniV; rw [if_pos hz]
    have e2 : (h || uniH A) = (h || orB (fun i => satH (A i)) 4) := by unfold uniH; rw [if_pos hz, Bool.or_false]
    have EZ := Lib.hid EZ
    have E1 := Lib.hid (And.intro e1 e2)
    clear hz e1 e2 S2
    refine wp_region_lit ?_
    refine wpList_val (v := ?_) rfl ?_ ?_
    rotate_left
    · refine Eq.trans (run_load_row 30 (.tmp 3) (by rfl) (w.heap.size) (by rfl) _ _ _ _ (P2) Try.underlying30 rfl (irq.trans (by rw [arrv_size]))) ?_; with_reducible rfl
    (try simp only [Act.put, List.setIfInBounds_toArray, List.set_cons_zero, List.set_cons_succ])
    refine wpList_val (v := ?_) rfl ?_ ?_
    rotate_left
    · (go_simp; (try (first | with_reducible rfl | (constructor <;> with_reducible rfl))))
    (try simp only [Act.put, List.setIfInBounds_toArray, List.set_cons_zero, List.set_cons_succ])
    refine wpList_val (v := ?_) rfl ?_ ?_
    rotate_left
    · refine Eq.trans (run_op_eqlVec Try.underlying30 (by kernel_rfl) (.tmp 11) (.tmp 12) (by rfl) (by rfl) (g := fun _ => 0) (by rw [← zq4]; rfl) EZ.out) ?_; with_reducible rfl
    (try simp only [Act.put, List.setIfInBounds_toArray, List.set_cons_zero, List.set_cons_succ])
    refine wpList_nil ?_
    have B1 := H2.out.res
    go_wp2_with fail
    refine (rqone_any _).mono ?_; rintro e w3 ⟨rfl, hb3⟩
    have R3 := B1.below hb3
    go_wp2_with (refine wpList_store_row rfl 30 _ _ rfl (w.heap.size + 1) _ rfl rfl 30 _ (R3) (irq.trans (by rw [arrv_size])) (by rw [arrv_size, arrv_size]) (oneCell_arrv _ _) ?_)
    refine bodyPost_ret (results_cell_row Try.results26 _ _ (w.heap.size + 1) 30 (arrv 4 oneQ) (0, 0) _ rfl (setRow_heap _ _ _ _ _ _ R3) Try.underlying30 rfl (irq.trans (by rw [arrv_size]))) rfl ⟨by rw [E1.out.1], ?_⟩
    rw [E1.out.2]
    exact (H2.out.upd.then hb3).then' (below_row (Below.refl _ _) (by omega) _)
  · have hz2 : zer4 (satA A) = false := by simpa using hz
    rw [hz2] at EZ
    have e1 : uniV A = uniT (uniT (satA A)) := by unfold uniV; rw [if_neg hz]
    have e2 : (h || uniH A) = (h || orB (fun i => satH (A i)) 4 || turH (satA A) 2) := by unfold uniH; rw [if_neg hz, ← Bool.or_assoc]; simp [turH, turN]
    have EZ := Lib.hid EZ
    have E1 := Lib.hid (And.intro e1 e2)
    clear hz e1 e2 S2 hz2
    refine wp_region_lit ?_
    refine wpList_val (v := ?_) rfl ?_ ?_
    rotate_left
    · refine Eq.trans (run_load_row 30 (.tmp 3) (by rfl) (w.heap.size) (by rfl) _ _ _ _ (P2) Try.underlying30 rfl (irq.trans (by rw [arrv_size]))) ?_; with_reducible rfl
    (try simp only [Act.put, List.setIfInBounds_toArray, List.set_cons_zero, List.set_cons_succ])
    refine wpList_val (v := ?_) rfl ?_ ?_
    rotate_left
    · (go_simp; (try (first | with_reducible rfl | (constructor <;> with_reducible rfl))))
    (try simp only [Act.put, List.setIfInBounds_toArray, List.set_cons_zero, List.set_cons_succ])
    refine wpList_val (v := ?_) rfl ?_ ?_
    rotate_left
    · refine Eq.trans (run_op_eqlVec Try.underlying30 (by kernel_rfl) (.tmp 11) (.tmp 12) (by rfl) (by rfl) (g := fun _ => 0) (by rw [← zq4]; rfl) EZ.out) ?_; with_reducible rfl
    (try simp only [Act.put, List.setIfInBounds_toArray, List.set_cons_zero, List.set_cons_succ])
    refine wpList_nil ?_
    obtain ⟨H1, hH1⟩ : ∃ H1, (h || orB (fun i => satH (A i)) 4) = H1 := ⟨_, rfl⟩
    obtain ⟨B, hB⟩ : ∃ B, satA A = B := ⟨_, rfl⟩
    rw [hH1, hB] at H2
    have E2 : Hid (uniV A = turN B 2 ∧ (h || uniH A) = (H1 || turH B 2)) := by rw [← hB, ← hH1]; exact E1
    clear hH1 hB EZ P2
    go_wp2_with fail
    go_loopw [5] (fun i wr => ∃ n : Nat, n ≤ 2 ∧ i = .int .i64 n ∧ Hid (RquR c (H1 || turH B n) (turN B n) w wr)) (fun i _ => 2 - (intOf i).toNat)
    case atStart => exact ⟨0, by omega, rfl, by rw [show (H1 || turH B 0) = H1 from by simp [turH]]; exact H2.out⟩
    case round =>
      obtain ⟨n, hn, rfl, R⟩ := hrel
      by_cases hlt : n < 2
      · have d1 : decide ((n : Int) < 2) = true := by simp; omega
        obtain ⟨G, hG⟩ : ∃ G, turN B n = G := ⟨_, rfl⟩
        obtain ⟨H3, hH3⟩ : ∃ H3, (H1 || turH B n) = H3 := ⟨_, rfl⟩
        have hstep : turN B (n + 1) = uniT G ∧ (H1 || turH B (n + 1)) = (H3 || uniTH G) := by rw [← hG, ← hH3]; exact ⟨rfl, by simp [turH, Bool.or_assoc]⟩
        have HST := Lib.hid hstep
        rw [hG, hH3] at R
        clear hG hH3 hstep H2
        have rc := R.out.upd.cellc HC.out
        have rf := (R.out.upd.frozen hcb).trans HF.out
        have HY := Lib.hid (fun (x : World) k1 k2 k3 => rhypot_any c H3 G wr.heap.size 0 4 4 x k1 k2 (by decide) k3)
        have B0 := R.out.blk
        have RD := Lib.hid (RquR.mk (R.out.upd.drew.alloc (.cells #[.int .i64 (G 0), .int .i64 (G 1), .int .i64 (G 2), .int .i64 (G 3)] 2)) (Blk.alloc (show Blk wr.drew w.heap.size 30 4 G from R.out.blk) (.cells #[.int .i64 (G 0), .int .i64 (G 1), .int .i64 (G 2), .int .i64 (G 3)] 2)) (Blk.alloc (show Blk wr.drew (w.heap.size + 1) 30 4 (fun _ => 0) from R.out.res) (.cells #[.int .i64 (G 0), .int .i64 (G 1), .int .i64 (G 2), .int .i64 (G 3)] 2)))
        go_upto_region 7 with fail
        refine wp_region_M (fun w' => Blk w' w.heap.size 30 4 G) 13 (by kernel_rfl) ?_ (fun hHeld => ?_)
        · exact B0
        refine wpAnyM_take 0 (v := ?_) rfl (by kernel_rfl) (fun _ _ _ h => h) (Or.inl ⟨by rfl, ?_⟩) (by assumption) ?_
        rotate_left
        · (intro wx hSw; (try dsimp only at hSw); go_simp; (try with_reducible rfl))
        (try simp only [Act.put, List.setIfInBounds_toArray, List.set_cons_zero, List.set_cons_succ])
        refine wpAnyM_take 1 (v := ?_) rfl (by kernel_rfl) (fun _ _ _ h => h) (Or.inl ⟨by rfl, ?_⟩) (by assumption) ?_
        rotate_left
        · (intro wx hSw; (try dsimp only at hSw); go_simp; (try with_reducible rfl))
        (try simp only [Act.put, List.setIfInBounds_toArray, List.set_cons_zero, List.set_cons_succ])
        refine wpAnyM_take 2 (v := ?_) rfl (by kernel_rfl) (fun _ _ _ h => h) (Or.inl ⟨by rfl, ?_⟩) (by assumption) ?_
        rotate_left
        · (intro wx hSw; (try dsimp only at hSw); go_simp; (try with_reducible rfl))
        (try simp only [Act.put, List.setIfInBounds_toArray, List.set_cons_zero, List.set_cons_succ])
        refine wpAnyM_take 3 (v := ?_) rfl (by kernel_rfl) (fun _ _ _ h => h) (Or.inl ⟨by rfl, ?_⟩) (by assumption) ?_
        rotate_left
        · (intro wx hSw; (try dsimp only at hSw); go_simp; (try with_reducible rfl))
        (try simp only [Act.put, List.setIfInBounds_toArray, List.set_cons_zero, List.set_cons_succ])
        refine wpAnyM_take 4 (v := ?_) rfl (by kernel_rfl) (fun _ _ _ h => h) (Or.inl ⟨by rfl, ?_⟩) (by assumption) ?_
        rotate_left
        · (intro wx hSw; have q0 := Blk.cell (i := 0) hSw (by decide); go_simp; (try with_reducible rfl))
        (try simp only [Act.put, List.setIfInBounds_toArray, List.set_cons_zero, List.set_cons_succ])
        refine wpAnyM_take 5 (v := ?_) rfl (by kernel_rfl) (fun _ _ _ h => h) (Or.inl ⟨by rfl, ?_⟩) (by assumption) ?_
        rotate_left
        · (intro wx hSw; (try dsimp only at hSw); go_simp; (try with_reducible rfl))
        (try simp only [Act.put, List.setIfInBounds_toArray, List.set_cons_zero, List.set_cons_succ])
        refine wpAnyM_take 6 (v := ?_) rfl (by kernel_rfl) (fun _ _ _ h => h) (Or.inl ⟨by rfl, ?_⟩) (by assumption) ?_
        rotate_left
        · (intro wx hSw; have q0 := Blk.cell (i := 1) hSw (by decide); go_simp; (try with_reducible rfl))
        (try simp only [Act.put, List.setIfInBounds_toArray, List.set_cons_zero, List.set_cons_succ])
        refine wpAnyM_take 7 (v := ?_) rfl (by kernel_rfl) (fun _ _ _ h => h) (Or.inl ⟨by rfl, ?_⟩) (by assumption) ?_
        rotate_left
        · (intro wx hSw; (try dsimp only at hSw); go_simp; (try with_reducible rfl))
        (try simp only [Act.put, List.setIfInBounds_toArray, List.set_cons_zero, List.set_cons_succ])
        refine wpAnyM_take 8 (v := ?_) rfl (by kernel_rfl) (fun _ _ _ h => h) (Or.inl ⟨by rfl, ?_⟩) (by assumption) ?_
        rotate_left
        · (intro wx hSw; have q0 := Blk.cell (i := 2) hSw (by decide); go_simp; (try with_reducible rfl))
        (try simp only [Act.put, List.setIfInBounds_toArray, List.set_cons_zero, List.set_cons_succ])
        refine wpAnyM_take 9 (v := ?_) rfl (by kernel_rfl) (fun _ _ _ h => h) (Or.inl ⟨by rfl, ?_⟩) (by assumption) ?_
        rotate_left
        · (intro wx hSw; (try dsimp only at hSw); go_simp; (try with_reducible rfl))
        (try simp only [Act.put, List.setIfInBounds_toArray, List.set_cons_zero, List.set_cons_succ])
        refine wpAnyM_take 10 (v := ?_) rfl (by kernel_rfl) (fun _ _ _ h => h) (Or.inl ⟨by rfl, ?_⟩) (by assumption) ?_
        rotate_left
        · (intro wx hSw; have q0 := Blk.cell (i := 3) hSw (by decide); go_simp; (try with_reducible rfl))
        (try simp only [Act.put, List.setIfInBounds_toArray, List.set_cons_zero, List.set_cons_succ])
        refine wpAnyM_oneS 11 rfl (by kernel_rfl) (fun K hK => ?_)
        go_simp
        clear hHeld
        refine hK.out _ _ ?_ (fun hHeld => ?_)
        · exact RD.out.blk
        clear hK K
        (try simp only [Act.put, List.setIfInBounds_toArray, List.set_cons_zero, List.set_cons_succ])
        refine wpAnyM_oneS 12 rfl (by kernel_rfl) (fun K hK => ?_)
        go_simp
        (refine (HY.out _ (RD.out.upd.cellc HC.out) ((RD.out.upd.frozen hcb).trans HF.out) (rq_slc wr.drew G 2)).mono ?_); rintro e w2 ⟨rfl, hu2⟩; have R2 := Lib.hid (RD.out.upd' hcb hu2)
        (try dsimp only)
        (try simp only [Act.put, List.setIfInBounds_toArray, List.set_cons_zero, List.set_cons_succ])
        clear hHeld
        refine hK.out _ _ ?_ (fun hHeld => ?_)
        · exact R2.out.blk
        clear hK K
        (try simp only [Act.put, List.setIfInBounds_toArray, List.set_cons_zero, List.set_cons_succ])
        refine wpAnyM_one 13 rfl (by kernel_rfl) (fun K hK => ?_)
        go_simp
        refine hK.out _ _ (.inl (by kernel_rfl)) (fun _ => ?_)
        clear hK K
        (try simp only [Act.put, List.setIfInBounds_toArray, List.set_cons_zero, List.set_cons_succ])
        refine wpAnyM_done (by kernel_rfl) ?_ _
        (try clear hHeld)
        obtain ⟨M, hM⟩ : ∃ M, hypV G 4 = M := ⟨_, rfl⟩
        obtain ⟨H4, hH4⟩ : ∃ H4, (H3 || hypH G 4) = H4 := ⟨_, rfl⟩
        rw [hM]
        rw [hH4] at R2
        have HM := Lib.hid (And.intro hM hH4)
        clear hM hH4 hu2 HY R rc rf B0 RD
        go_wp2_with fail
        go_loopw [7] (fun i wr => ∃ k : Nat, k ≤ 4 ∧ i = .int .i64 k ∧ Hid (RquR c (H4 || orB (fun i => divH (G i) M 30) k) (turK G M k) w wr)) (fun i _ => 4 - (intOf i).toNat)
        case atStart =>
          refine ⟨0, by omega, rfl, ?_⟩
          rw [show (H4 || orB (fun i => divH (G i) M 30) 0) = H4 from by simp [orB]]
          exact ⟨R2.out.upd, R2.out.blk.congr fun i hi => by simp [turK], R2.out.res⟩
        case round =>
          obtain ⟨k, hk, rfl, R⟩ := hrel
          by_cases hlt4 : k < 4
          · have rc := R.out.upd.cellc HC.out
            have rf := (R.out.upd.frozen hcb).trans HF.out
            have b0 := R.out.blk.cell (i := k) (by omega)
            have hv : turK G M k k = G k := by simp [turK]
            rw [hv] at b0
            have DV := Lib.hid (rd_any c _ (G k) M wr.drew (by exact rc) (by exact rf))
            have k0 : (0 : Int) ≤ (k : Int) := Int.natCast_nonneg _
            have k1 : (k : Int) < 4 := by omega
            have d4 : decide ((k : Int) < 4) = true := by simp; omega
            have RD := Lib.hid (RquR.mk (w := w) R.out.upd.drew R.out.blk R.out.res)
            clear hv rc rf
            go_upto_region 11 with fail
            refine wp_region_M (fun w' => w'.cell? ⟨w.heap.size, k, none⟩ = some (.int .i64 (G k))) 10 (by kernel_rfl) ?_ (fun hHeld => ?_)
            · exact b0
            refine wpAnyM_take 0 (v := ?_) rfl (by kernel_rfl) (fun _ _ _ h => h) (Or.inl ⟨by rfl, ?_⟩) (by assumption) ?_
            rotate_left
            · (intro wx hSw; (try dsimp only at hSw); go_simp; (try with_reducible rfl))
            (try simp only [Act.put, List.setIfInBounds_toArray, List.set_cons_zero, List.set_cons_succ])
            refine wpAnyM_take 1 (v := ?_) rfl (by kernel_rfl) (fun _ _ _ h => h) (Or.inl ⟨by rfl, ?_⟩) (by assumption) ?_
            rotate_left
            · (intro wx hSw; (try dsimp only at hSw); go_simp; (try with_reducible rfl))
            (try simp only [Act.put, List.setIfInBounds_toArray, List.set_cons_zero, List.set_cons_succ])
            refine wpAnyM_take 2 (v := ?_) rfl (by kernel_rfl) (fun _ _ _ h => h) (Or.inl ⟨by rfl, ?_⟩) (by assumption) ?_
            rotate_left
            · (intro wx hSw; (try dsimp only at hSw); go_simp; (try with_reducible rfl))
            (try simp only [Act.put, List.setIfInBounds_toArray, List.set_cons_zero, List.set_cons_succ])
            refine wpAnyM_take 3 (v := ?_) rfl (by kernel_rfl) (fun _ _ _ h => h) (Or.inl ⟨by rfl, ?_⟩) (by assumption) ?_
            rotate_left
            · (intro wx hSw; (try dsimp only at hSw); go_simp; (try with_reducible rfl))
            (try simp only [Act.put, List.setIfInBounds_toArray, List.set_cons_zero, List.set_cons_succ])
            refine wpAnyM_take 4 (v := ?_) rfl (by kernel_rfl) (fun _ _ _ h => h) (Or.inl ⟨by rfl, ?_⟩) (by assumption) ?_
            rotate_left
            · (intro wx hSw; (try dsimp only at hSw); go_simp; (try with_reducible rfl))
            (try simp only [Act.put, List.setIfInBounds_toArray, List.set_cons_zero, List.set_cons_succ])
            refine wpAnyM_take 5 (v := ?_) rfl (by kernel_rfl) (fun _ _ _ h => h) (Or.inl ⟨by rfl, ?_⟩) (by assumption) ?_
            rotate_left
            · (intro wx hSw; (try dsimp only at hSw); go_simp; (first | rw [if_pos (by omega)] | rw [if_pos ⟨by omega, by omega⟩] | skip); (try with_reducible rfl))
            (try simp only [Act.put, List.setIfInBounds_toArray, List.set_cons_zero, List.set_cons_succ])
            refine wpAnyM_take 6 (v := ?_) rfl (by kernel_rfl) (fun _ _ _ h => h) (Or.inl ⟨by rfl, ?_⟩) (by assumption) ?_
            rotate_left
            · (intro wx hSw; (try dsimp only at hSw); go_simp; (try with_reducible rfl))
            (try simp only [Act.put, List.setIfInBounds_toArray, List.set_cons_zero, List.set_cons_succ])
            refine wpAnyM_take 7 (v := ?_) rfl (by kernel_rfl) (fun _ _ _ h => h) (Or.inl ⟨by rfl, ?_⟩) (by assumption) ?_
            rotate_left
            · (intro wx hSw; (try dsimp only at hSw); go_simp; (try with_reducible rfl))
            (try simp only [Act.put, List.setIfInBounds_toArray, List.set_cons_zero, List.set_cons_succ])
            refine wpAnyM_oneS 8 rfl (by kernel_rfl) (fun K hK => ?_)
            go_simp
            (refine DV.out.mono ?_); rintro e w3 ⟨rfl, hu3⟩; have R3 := Lib.hid (RD.out.upd' hcb hu3); have b1 : w3.cell? ⟨w.heap.size, k, none⟩ = some (.int .i64 (G k)) := (by have h := R3.out.blk.cell (i := k) (by omega); simpa [turK] using h); have b2 := R3.out.blk.free k; clear hu3
            (try dsimp only)
            (try simp only [Act.put, List.setIfInBounds_toArray, List.set_cons_zero, List.set_cons_succ])
            clear hHeld
            refine hK.out _ _ ?_ (fun hHeld => ?_)
            · exact b1
            clear hK K
            (try simp only [Act.put, List.setIfInBounds_toArray, List.set_cons_zero, List.set_cons_succ])
            refine wpAnyM_take 9 (v := ?_) rfl (by kernel_rfl) (fun _ _ _ h => h) (Or.inl ⟨by rfl, ?_⟩) (by assumption) ?_
            rotate_left
            · (intro wx hSw; (try dsimp only at hSw); go_simp; (first | rw [if_pos (by omega)] | rw [if_pos ⟨by omega, by omega⟩] | skip); (try with_reducible rfl))
            (try simp only [Act.put, List.setIfInBounds_toArray, List.set_cons_zero, List.set_cons_succ])
            refine wpAnyM_one 10 rfl (by kernel_rfl) (fun K hK => ?_)
            go_simp
            refine hK.out _ _ (.inl (by kernel_rfl)) (fun _ => ?_)
            clear hK K
            (try simp only [Act.put, List.setIfInBounds_toArray, List.set_cons_zero, List.set_cons_succ])
            refine wpAnyM_done (by kernel_rfl) ?_ _
            (try clear hHeld)
            clear DV R RD
            go_wp2_with fail
            go_roundw
            case rel =>
              refine ⟨k + 1, by omega, by go_num, ⟨?_, ?_, ?_⟩⟩
              · rw [show (H4 || orB (fun i => divH (G i) M 30) (k + 1)) = (H4 || orB (fun i => divH (G i) M 30) k || divH (G k) M 30) from by simp [orB, Bool.or_assoc]]
                exact R3.out.upd.setCell (Nat.le_refl _) _
              · refine (R3.out.blk.set _ _).congr fun i hi => ?_
                simp only [Go.Proofs.Ytcibndlpnfikhaa.upd, turK]
                by_cases h1 : i = k
                · subst h1; simp
                · rw [if_neg h1]; split <;> split <;> first | rfl | omega
              · exact R3.out.res.other (by simp) _
            case measure => simp [intOf]; omega
          · have hk4 : k = 4 := by omega
            subst hk4
            rw [show ((4 : Nat) : Int) = 4 from rfl]
            clear hlt4 hk
            go_wp2_with fail
            go_roundw
            case rel =>
              refine ⟨n + 1, by omega, by go_num, ?_⟩
              rw [HST.out.1, HST.out.2]
              have e3 : (H3 || uniTH G) = (H4 || orB (fun i => divH (G i) M 30) 4) := by rw [← HM.out.2, ← HM.out.1]; simp [uniTH, Bool.or_assoc]
              rw [e3]
              exact ⟨R.out.upd, R.out.blk.congr fun i hi => by simp only [turK, uniT, HM.out.1]; rw [if_pos hi], R.out.res⟩
            case measure => simp [intOf]; omega
      · have hn2 : n = 2 := by omega
        subst hn2
        rw [show ((2 : Nat) : Int) = 2 from rfl]
        have B0 := R.out.blk
        have B1 := R.out.res
        have U := Lib.hid R.out.upd
        clear R hlt hn H2
        go_wp2_with (first | (refine wpList_load_row rfl 30 _ rfl (w.heap.size) rfl 30 _ (0, 0) _ (B0) Try.underlying30 rfl (irq.trans (by rw [arrv_size])) ?_) | (refine wpList_store_row rfl 30 _ _ rfl (w.heap.size + 1) _ rfl rfl 30 _ (B1) (irq.trans (by rw [arrv_size])) (by rw [arrv_size, arrv_size]) (oneCell_arrv _ _) ?_))
        refine bodyPost_ret (results_cell_row Try.results26 _ _ (w.heap.size + 1) 30 (arrv 4 (turN B 2)) (0, 0) _ rfl (setRow_heap _ _ _ _ _ _ B1) Try.underlying30 rfl (irq.trans (by rw [arrv_size]))) rfl ⟨by rw [E2.out.1], ?_⟩
        rw [E2.out.2]
        exact U.out.then' (below_row (Below.refl _ _) (by omega) _)
end Go.Proofs.Ytcibndlpnfikhaa
/- Contract of the reference's Near. -/
namespace Go.Proofs.Ytcibndlpnfikhaa
open Go.RowKit
set_option maxRecDepth 100000
def sqN (A : Nat → Int) (i : Nat) : Nat := (A i).natAbs * (A i).natAbs
theorem sqN_int (A : Nat → Int) (i : Nat) : A i * A i = ((sqN A i : Nat) : Int) := by unfold sqN; exact Int.natAbs_mul_self.symm
def nrS (A : Nat → Int) : Nat → Nat | 0 => 0 | k + 1 => nrS A k + sqN A k / 4
def nrT (A : Nat → Int) : Nat → Nat | 0 => 0 | k + 1 => nrT A k + sqN A k % 4
theorem nr_sum (A : Nat → Int) : sum4 A = ((4 * nrS A 4 + nrT A 4 : Nat) : Int) := by
  unfold sum4
  rw [sqN_int, sqN_int, sqN_int, sqN_int]
  simp only [nrS, nrT]
  omega
theorem nrT_bd (A : Nat → Int) : ∀ k, nrT A k ≤ 3 * k
  | 0 => by simp [nrT]
  | k + 1 => by have := nrT_bd A k; simp only [nrT]; omega
theorem nrS_mono (A : Nat → Int) {k m : Nat} (h : k ≤ m) : nrS A k ≤ nrS A m := by
  induction m with
  | zero => have : k = 0 := by omega
            subst this; exact Nat.le_refl _
  | succ m ih =>
    by_cases e : k = m + 1
    · subst e; exact Nat.le_refl _
    · have := ih (by omega); simp only [nrS]; omega
theorem near_far {A : Nat → Int} {k : Nat} (hk : k < 4) (h : A k < -2147483648 ∨ 2147483648 < A k) : unitB A = false := by
  refine unitB_no (n := k + 1) ?_ (by omega)
  simp only [inQs]
  rw [show inQ (A k) = false from by unfold inQ; simp; omega, Bool.and_false]
theorem near_much {A : Nat → Int} {k : Nat} (hk : k ≤ 4) (h : 576460752303423488 < nrS A k) : unitB A = false := by
  have h1 := nrS_mono A hk
  have h2 := nr_sum A
  unfold unitB
  rw [show decide (sum4 A - 1152921504606846976 ≤ 4294967296) = false from by simp; omega]
  simp
theorem sq_small {a : Int} (h : a * a ≤ 1152921508901814272) : inQ a = true := by
  unfold inQ
  have h1 : a ≤ 1073741840 := by
    rcases Int.lt_or_le 1073741840 a with h2 | h2
    · have : 1073741841 * 1073741841 ≤ a * a := Int.mul_le_mul (by omega) (by omega) (by omega) (by omega)
      omega
    · exact h2
  have h3 : -1073741840 ≤ a := by
    rcases Int.lt_or_le a (-1073741840) with h2 | h2
    · have : 1073741841 * 1073741841 ≤ (-a) * (-a) := Int.mul_le_mul (by omega) (by omega) (by omega) (by omega)
      rw [Int.neg_mul_neg] at this
      omega
    · exact h2
  simp; omega
theorem near_end (A : Nat → Int) : unitB A = (decide (-4294967296 ≤ 4 * ((nrS A 4 : Int) - 288230376151711744) + (nrT A 4 : Int)) && decide (4 * ((nrS A 4 : Int) - 288230376151711744) + (nrT A 4 : Int) ≤ 4294967296)) := by
  have h2 := nr_sum A
  have e : 4 * ((nrS A 4 : Int) - 288230376151711744) + (nrT A 4 : Int) = sum4 A - 1152921504606846976 := by omega
  rw [e]
  unfold unitB
  by_cases h : sum4 A - 1152921504606846976 ≤ 4294967296
  · have hs : ∀ i, i < 4 → A i * A i ≤ sum4 A := by
      intro i hi
      have z0 := sqN_int A 0
      have z1 := sqN_int A 1
      have z2 := sqN_int A 2
      have z3 := sqN_int A 3
      unfold sum4
      obtain rfl | rfl | rfl | rfl : i = 0 ∨ i = 1 ∨ i = 2 ∨ i = 3 := by omega
      all_goals omega
    have hq : inQs A 4 = true := by
      simp only [inQs]
      rw [sq_small (by have := hs 0 (by omega); omega), sq_small (by have := hs 1 (by omega); omega), sq_small (by have := hs 2 (by omega); omega), sq_small (by have := hs 3 (by omega); omega)]
      rfl
    rw [hq, Bool.true_and]
  · rw [show decide (sum4 A - 1152921504606846976 ≤ 4294967296) = false from by simpa using h]
    simp
set_option maxHeartbeats 4000000 in
theorem rnear_any (A : Nat → Int) (w : World) : Calls Try.prog 20 #[.agg (arrv 4 A)] w fun e w' => e = .returned (.bool (unitB A)) ∧ Below w.heap.size w w' := by
  have P0 := Lib.hid (Blk.new w 30 4 A)
  have B0 := Lib.hid (show Below w.heap.size w (w.alloc (.cells (arrv 4 A) 30)) by (repeat (first | with_reducible exact Below.refl _ _ | with_reducible apply Below.drew | (with_reducible refine below_drewN ?_ _) | (with_reducible refine Below.alloc ?_ (by (try simp) <;> omega) _) | (with_reducible refine Below.setCell ?_ (by (try simp) <;> omega) _))))
  go_enter Try.func20, Try.ntmps20
  go_upto_region 1 with fail
  generalize w.alloc (.cells (arrv 4 A) 30) = W0 at *
  go_wp2_with fail
  go_loopw [3, 4] (fun v3 v4 wr => ∃ k : Nat, k ≤ 4 ∧ v3 = .int .i64 (nrS A k : Nat) ∧ v4 = .int .i64 k ∧ Hid (Below w.heap.size w wr ∧ Blk wr w.heap.size 30 4 A ∧ (∀ i, i < k → -2147483648 ≤ A i ∧ A i ≤ 2147483648) ∧ nrS A k ≤ 576460752303423488)) (fun _ v4 _ => 4 - (intOf v4).toNat)
  case atStart => exact ⟨0, by omega, rfl, rfl, Lib.hid ⟨B0.out, P0.out, fun i hi => by omega, by simp [nrS]⟩⟩
  case round =>
    obtain ⟨k, hk, rfl, rfl, R⟩ := hrel
    by_cases hlt : k < 4
    · have d1 : decide ((k : Int) < 4) = true := by simp; omega
      have b0 := R.out.2.1.cell (i := k) hlt
      have k0 : (0 : Int) ≤ (k : Int) := Int.natCast_nonneg _
      have k1 : (k : Int) < 4 := by omega
      have hsq := sqN_int A k
      have hS : nrS A (k + 1) = nrS A k + sqN A k / 4 := rfl
      have NF := Lib.hid (fun (h : A k < -2147483648 ∨ 2147483648 < A k) => near_far hlt h)
      have NM := Lib.hid (fun (h : 576460752303423488 < nrS A (k + 1)) => near_much (A := A) (k := k + 1) (by omega) h)
      obtain ⟨a, ha⟩ : ∃ a, A k = a := ⟨_, rfl⟩
      obtain ⟨P, hP⟩ : ∃ P, sqN A k = P := ⟨_, rfl⟩
      rw [ha] at b0 hsq
      simp only [ha] at NF
      rw [hP] at hsq hS
      have EA := Lib.hid ha
      have HR := Lib.hid R.out
      have hs0 := R.out.2.2.2
      obtain ⟨S, hSk⟩ : ∃ S, nrS A k = S := ⟨_, rfl⟩
      rw [hSk] at hS hs0 ⊢
      clear R ha hP hSk P0 B0
      by_cases h1 : a < -2147483648
      · have e1 : decide (a < -2147483648) = true := by simpa using h1
        have NO := Lib.hid (NF.out (.inl h1))
        clear h1 hsq hS
        go_wp2_with fail
        go_ret
        exact ⟨by rw [NO.out]; rfl, HR.out.1⟩
      · have e1 : decide (a < -2147483648) = false := by simpa using h1
        by_cases h2 : 2147483648 < a
        · have e2 : decide (2147483648 < a) = true := by simpa using h2
          have NO := Lib.hid (NF.out (.inr h2))
          clear h1 h2 hsq hS
          go_wp2_with fail
          go_ret
          exact ⟨by rw [NO.out]; rfl, HR.out.1⟩
        · have e2 : decide (2147483648 < a) = false := by simpa using h2
          have hPb : P ≤ 4611686018427387904 := by
            have h3 : a.natAbs ≤ 2147483648 := by omega
            have h4 : a.natAbs * a.natAbs ≤ 2147483648 * 2147483648 := Nat.mul_le_mul h3 h3
            have h5 : a * a = ((a.natAbs * a.natAbs : Nat) : Int) := Int.natAbs_mul_self.symm
            omega
          have kw : IntKind.i64.wrap (a * a) = (P : Int) := by rw [hsq]; exact IntWalk.i64_in _ (by omega)
          have HA2 := Lib.hid (show -2147483648 ≤ a ∧ a ≤ 2147483648 by omega)
          clear h1 h2 hsq
          go_upto_region 7 with fail
          obtain ⟨Q, hQ⟩ : ∃ Q, P / 4 = Q := ⟨_, rfl⟩
          have kq : IntKind.i64.wrap ((P : Int) / 4) = (Q : Int) := by rw [show ((P : Int) / 4) = (Q : Int) by omega]; exact IntWalk.i64_in _ (by omega)
          rw [hQ] at hS
          obtain ⟨T, hT⟩ : ∃ T, S + Q = T := ⟨_, rfl⟩
          have hTi : (S : Int) + (Q : Int) = (T : Int) := by omega
          have kt : IntKind.i64.wrap ((S : Int) + (Q : Int)) = (T : Int) := by rw [hTi]; exact IntWalk.i64_in _ (by omega)
          have tb0 : (0 : Int) ≤ (T : Int) := Int.natCast_nonneg _
          have tb1 : (T : Int) < 4611686018427387904 := by omega
          rw [hT] at hS
          rw [hS] at NM
          have HS := Lib.hid hS
          clear hPb hQ hT hs0 hS
          refine wp_region_M (fun w' => w'.cell? ⟨w.heap.size, k, none⟩ = some (.int .i64 a)) 8 (by kernel_rfl) ?_ (fun hHeld => ?_)
          · exact b0
          refine wpAnyM_take 0 (v := ?_) rfl (by kernel_rfl) (fun _ _ _ h => h) (Or.inl ⟨by rfl, ?_⟩) (by assumption) ?_
          rotate_left
          · (intro wx hSw; (try dsimp only at hSw); go_simp; (try with_reducible rfl))
          (try simp only [Act.put, List.setIfInBounds_toArray, List.set_cons_zero, List.set_cons_succ])
          refine wpAnyM_take 1 (v := ?_) rfl (by kernel_rfl) (fun _ _ _ h => h) (Or.inl ⟨by rfl, ?_⟩) (by assumption) ?_
          rotate_left
          · (intro wx hSw; (try dsimp only at hSw); go_simp; (try with_reducible rfl))
          (try simp only [Act.put, List.setIfInBounds_toArray, List.set_cons_zero, List.set_cons_succ])
          refine wpAnyM_take 2 (v := ?_) rfl (by kernel_rfl) (fun _ _ _ h => h) (Or.inl ⟨by rfl, ?_⟩) (by assumption) ?_
          rotate_left
          · (intro wx hSw; (try dsimp only at hSw); go_simp; (try with_reducible rfl))
          (try simp only [Act.put, List.setIfInBounds_toArray, List.set_cons_zero, List.set_cons_succ])
          refine wpAnyM_take 3 (v := ?_) rfl (by kernel_rfl) (fun _ _ _ h => h) (Or.inl ⟨by rfl, ?_⟩) (by assumption) ?_
          rotate_left
          · (intro wx hSw; (try dsimp only at hSw); go_simp; (try with_reducible rfl))
          (try simp only [Act.put, List.setIfInBounds_toArray, List.set_cons_zero, List.set_cons_succ])
          refine wpAnyM_take 4 (v := ?_) rfl (by kernel_rfl) (fun _ _ _ h => h) (Or.inl ⟨by rfl, ?_⟩) (by assumption) ?_
          rotate_left
          · (intro wx hSw; (try dsimp only at hSw); go_simp; (try with_reducible rfl))
          (try simp only [Act.put, List.setIfInBounds_toArray, List.set_cons_zero, List.set_cons_succ])
          refine wpAnyM_take 5 (v := ?_) rfl (by kernel_rfl) (fun _ _ _ h => h) (Or.inl ⟨by rfl, ?_⟩) (by assumption) ?_
          rotate_left
          · (intro wx hSw; (try dsimp only at hSw); go_simp; (try with_reducible rfl))
          (try simp only [Act.put, List.setIfInBounds_toArray, List.set_cons_zero, List.set_cons_succ])
          refine wpAnyM_take 6 (v := ?_) rfl (by kernel_rfl) (fun _ _ _ h => h) (Or.inl ⟨by rfl, ?_⟩) (by assumption) ?_
          rotate_left
          · (intro wx hSw; go_simp; (try rw [kw]); (try with_reducible rfl))
          (try simp only [Act.put, List.setIfInBounds_toArray, List.set_cons_zero, List.set_cons_succ])
          refine wpAnyM_take 7 (v := ?_) rfl (by kernel_rfl) (fun _ _ _ h => h) (Or.inl ⟨by rfl, ?_⟩) (by assumption) ?_
          rotate_left
          · (intro wx hSw; go_simp; (try rw [kq]); (try with_reducible rfl))
          (try simp only [Act.put, List.setIfInBounds_toArray, List.set_cons_zero, List.set_cons_succ])
          refine wpAnyM_one 8 rfl (by kernel_rfl) (fun K hK => ?_)
          go_simp
          refine hK.out _ _ (.inl (by kernel_rfl)) (fun _ => ?_)
          clear hK K
          (try simp only [Act.put, List.setIfInBounds_toArray, List.set_cons_zero, List.set_cons_succ])
          refine wpAnyM_done (by kernel_rfl) ?_ _
          (try clear hHeld)
          have HR7 := Lib.hid (show Below w.heap.size w wr.drew ∧ Blk wr.drew w.heap.size 30 4 A ∧ (∀ i, i < k → -2147483648 ≤ A i ∧ A i ≤ 2147483648) from ⟨HR.out.1.drew, HR.out.2.1, HR.out.2.2.1⟩)
          clear b0 kw kq HR
          generalize wr.drew = W7 at *
          go_upto_region 9 with fail
          (try rw [kt]); (try rw [hTi])
          by_cases h3 : 576460752303423488 < T
          · have e3 : decide (576460752303423488 < T) = true := by simpa using h3
            have e4 : decide ((576460752303423488 : Int) < (T : Int)) = true := by simp; omega
            have NO := Lib.hid (NM.out h3)
            clear h3
            go_wp2_with fail
            go_ret
            exact ⟨by rw [NO.out]; rfl, HR7.out.1⟩
          · have e3 : decide (576460752303423488 < T) = false := by simpa using h3
            have e4 : decide ((576460752303423488 : Int) < (T : Int)) = false := by simp; omega
            have H3 := Lib.hid h3
            clear h3 NM NF
            go_wp2_with fail
            go_roundw
            case rel =>
              refine ⟨k + 1, by omega, by rw [HS.out], by go_num, Lib.hid ⟨HR7.out.1, HR7.out.2.1, fun i hi => ?_, by rw [HS.out]; have := H3.out; omega⟩⟩
              by_cases e : i = k
              · subst e; rw [EA.out]; exact HA2.out
              · exact HR7.out.2.2 i (by omega)
            case measure => simp [intOf]; omega
    · obtain rfl : k = 4 := by omega
      rw [show ((4 : Nat) : Int) = 4 from rfl]
      have HE := Lib.hid (near_end A)
      have hs0 := R.out.2.2.2
      have HR := Lib.hid R.out
      obtain ⟨S, hSk⟩ : ∃ S, nrS A 4 = S := ⟨_, rfl⟩
      rw [hSk] at HE hs0 ⊢
      clear R hSk hlt hk P0 B0
      go_wp2_with fail
      go_loopw [6, 7] (fun v6 v7 wq => ∃ k : Nat, k ≤ 4 ∧ v6 = .int .i64 (nrT A k : Nat) ∧ v7 = .int .i64 k ∧ Hid (Below w.heap.size w wq ∧ Blk wq w.heap.size 30 4 A)) (fun _ v7 _ => 4 - (intOf v7).toNat)
      case atStart => exact ⟨0, by omega, rfl, rfl, Lib.hid ⟨HR.out.1, HR.out.2.1⟩⟩
      case round =>
        obtain ⟨k, hk, rfl, rfl, R⟩ := hrel
        rename World => wr'
        have hT0 := nrT_bd A k
        by_cases hlt : k < 4
        · have d1 : decide ((k : Int) < 4) = true := by simp; omega
          have b0 := R.out.2.cell (i := k) hlt
          have k0 : (0 : Int) ≤ (k : Int) := Int.natCast_nonneg _
          have k1 : (k : Int) < 4 := by omega
          have hsq := sqN_int A k
          have hS2 : nrT A (k + 1) = nrT A k + sqN A k % 4 := rfl
          have hbd := HR.out.2.2.1 k hlt
          obtain ⟨a, ha⟩ : ∃ a, A k = a := ⟨_, rfl⟩
          obtain ⟨P, hP⟩ : ∃ P, sqN A k = P := ⟨_, rfl⟩
          rw [ha] at b0 hsq hbd
          rw [hP] at hsq hS2
          obtain ⟨U, hU⟩ : ∃ U, nrT A k = U := ⟨_, rfl⟩
          rw [hU] at hS2 hT0 ⊢
          have hPb : P ≤ 4611686018427387904 := by
            have h3 : a.natAbs ≤ 2147483648 := by omega
            have h4 : a.natAbs * a.natAbs ≤ 2147483648 * 2147483648 := Nat.mul_le_mul h3 h3
            have h5 : a * a = ((a.natAbs * a.natAbs : Nat) : Int) := Int.natAbs_mul_self.symm
            omega
          have kw : IntKind.i64.wrap (a * a) = (P : Int) := by rw [hsq]; exact IntWalk.i64_in _ (by omega)
          obtain ⟨Q, hQ⟩ : ∃ Q, P % 4 = Q := ⟨_, rfl⟩
          have kq : IntKind.i64.wrap ((P : Int) % 4) = (Q : Int) := by rw [show ((P : Int) % 4) = (Q : Int) by omega]; exact IntWalk.i64_in _ (by omega)
          have kq' : (P : Int).tmod 4 = (Q : Int) := by rw [Int.tmod_eq_emod_of_nonneg (by omega)]; omega
          rw [hQ] at hS2
          obtain ⟨T, hT⟩ : ∃ T, U + Q = T := ⟨_, rfl⟩
          have hTi : (U : Int) + (Q : Int) = (T : Int) := by omega
          have kt : IntKind.i64.wrap ((U : Int) + (Q : Int)) = (T : Int) := by rw [hTi]; exact IntWalk.i64_in _ (by omega)
          have tb0 : (0 : Int) ≤ (T : Int) := Int.natCast_nonneg _
          have tb1 : (T : Int) < 100 := by omega
          rw [hT] at hS2
          have kT : IntKind.i64.wrap (T : Int) = (T : Int) := IntWalk.i64_in _ (by omega)
          have HS2 := Lib.hid hS2
          clear hPb hQ hT hS2 hbd hsq ha hP hU hT0
          go_upto_region 15 with fail
          refine wp_region_M (fun w' => w'.cell? ⟨w.heap.size, k, none⟩ = some (.int .i64 a)) 10 (by kernel_rfl) ?_ (fun hHeld => ?_)
          · exact b0
          refine wpAnyM_take 0 (v := ?_) rfl (by kernel_rfl) (fun _ _ _ h => h) (Or.inl ⟨by rfl, ?_⟩) (by assumption) ?_
          rotate_left
          · (intro wx hSw; (try dsimp only at hSw); go_simp; (try with_reducible rfl))
          (try simp only [Act.put, List.setIfInBounds_toArray, List.set_cons_zero, List.set_cons_succ])
          refine wpAnyM_take 1 (v := ?_) rfl (by kernel_rfl) (fun _ _ _ h => h) (Or.inl ⟨by rfl, ?_⟩) (by assumption) ?_
          rotate_left
          · (intro wx hSw; (try dsimp only at hSw); go_simp; (try with_reducible rfl))
          (try simp only [Act.put, List.setIfInBounds_toArray, List.set_cons_zero, List.set_cons_succ])
          refine wpAnyM_take 2 (v := ?_) rfl (by kernel_rfl) (fun _ _ _ h => h) (Or.inl ⟨by rfl, ?_⟩) (by assumption) ?_
          rotate_left
          · (intro wx hSw; (try dsimp only at hSw); go_simp; (try with_reducible rfl))
          (try simp only [Act.put, List.setIfInBounds_toArray, List.set_cons_zero, List.set_cons_succ])
          refine wpAnyM_take 3 (v := ?_) rfl (by kernel_rfl) (fun _ _ _ h => h) (Or.inl ⟨by rfl, ?_⟩) (by assumption) ?_
          rotate_left
          · (intro wx hSw; (try dsimp only at hSw); go_simp; (try with_reducible rfl))
          (try simp only [Act.put, List.setIfInBounds_toArray, List.set_cons_zero, List.set_cons_succ])
          refine wpAnyM_take 4 (v := ?_) rfl (by kernel_rfl) (fun _ _ _ h => h) (Or.inl ⟨by rfl, ?_⟩) (by assumption) ?_
          rotate_left
          · (intro wx hSw; (try dsimp only at hSw); go_simp; (try with_reducible rfl))
          (try simp only [Act.put, List.setIfInBounds_toArray, List.set_cons_zero, List.set_cons_succ])
          refine wpAnyM_take 5 (v := ?_) rfl (by kernel_rfl) (fun _ _ _ h => h) (Or.inl ⟨by rfl, ?_⟩) (by assumption) ?_
          rotate_left
          · (intro wx hSw; (try dsimp only at hSw); go_simp; (try with_reducible rfl))
          (try simp only [Act.put, List.setIfInBounds_toArray, List.set_cons_zero, List.set_cons_succ])
          refine wpAnyM_take 6 (v := ?_) rfl (by kernel_rfl) (fun _ _ _ h => h) (Or.inl ⟨by rfl, ?_⟩) (by assumption) ?_
          rotate_left
          · (intro wx hSw; (try dsimp only at hSw); go_simp; (try with_reducible rfl))
          (try simp only [Act.put, List.setIfInBounds_toArray, List.set_cons_zero, List.set_cons_succ])
          refine wpAnyM_take 7 (v := ?_) rfl (by kernel_rfl) (fun _ _ _ h => h) (Or.inl ⟨by rfl, ?_⟩) (by assumption) ?_
          rotate_left
          · (intro wx hSw; go_simp; (try rw [kw]); (try with_reducible rfl))
          (try simp only [Act.put, List.setIfInBounds_toArray, List.set_cons_zero, List.set_cons_succ])
          refine wpAnyM_take 8 (v := ?_) rfl (by kernel_rfl) (fun _ _ _ h => h) (Or.inl ⟨by rfl, ?_⟩) (by assumption) ?_
          rotate_left
          · (intro wx hSw; go_simp; (first | rw [kq] | rw [kq'] | skip); (try with_reducible rfl))
          (try simp only [Act.put, List.setIfInBounds_toArray, List.set_cons_zero, List.set_cons_succ])
          refine wpAnyM_take 9 (v := ?_) rfl (by kernel_rfl) (fun _ _ _ h => h) (Or.inl ⟨by rfl, ?_⟩) (by assumption) ?_
          rotate_left
          · (intro wx hSw; go_simp; (first | rw [kT] | rw [kt] | rw [hTi] | skip); (try with_reducible rfl))
          (try simp only [Act.put, List.setIfInBounds_toArray, List.set_cons_zero, List.set_cons_succ])
          refine wpAnyM_one 10 rfl (by kernel_rfl) (fun K hK => ?_)
          go_simp
          refine hK.out _ _ (.inl (by kernel_rfl)) (fun _ => ?_)
          clear hK K
          (try simp only [Act.put, List.setIfInBounds_toArray, List.set_cons_zero, List.set_cons_succ])
          refine wpAnyM_done (by kernel_rfl) ?_ _
          (try clear hHeld)
          have HR7 := Lib.hid (show Below w.heap.size w wr'.drew ∧ Blk wr'.drew w.heap.size 30 4 A from ⟨R.out.1.drew, R.out.2⟩)
          clear b0 kw kq kq' kt hTi
          go_wp2_with fail
          go_roundw
          case rel => exact ⟨k + 1, by omega, by rw [HS2.out], by go_num, HR7⟩
          case measure => simp [intOf]; omega
        · obtain rfl : k = 4 := by omega
          rw [show ((4 : Nat) : Int) = 4 from rfl]
          obtain ⟨U, hU⟩ : ∃ U, nrT A 4 = U := ⟨_, rfl⟩
          rw [hU] at hT0 HE ⊢
          have w1 : IntKind.i64.wrap ((S : Int) - 288230376151711744) = (S : Int) - 288230376151711744 := IntWalk.i64_in _ (by omega)
          have w2 : IntKind.i64.wrap (4 * ((S : Int) - 288230376151711744)) = 4 * ((S : Int) - 288230376151711744) := IntWalk.i64_in _ (by omega)
          have w3 : IntKind.i64.wrap (4 * ((S : Int) - 288230376151711744) + (U : Int)) = 4 * ((S : Int) - 288230376151711744) + (U : Int) := IntWalk.i64_in _ (by omega)
          have HB := Lib.hid R.out.1
          clear R hlt hk hU HR
          go_upto_region 17 with fail
          obtain ⟨d, hd⟩ : ∃ d, 4 * ((S : Int) - 288230376151711744) + (U : Int) = d := ⟨_, rfl⟩
          rw [hd] at HE ⊢
          clear w1 w2 w3 hd
          by_cases g : -4294967296 ≤ d
          · have g1 : decide (-4294967296 ≤ d) = true := by simpa using g
            by_cases g' : d ≤ 4294967296
            · have g2 : decide (d ≤ 4294967296) = true := by simpa using g'
              clear g g'
              go_wp2_with fail
              go_ret
              exact ⟨by rw [HE.out, g1, g2]; rfl, HB.out⟩
            · have g2 : decide (d ≤ 4294967296) = false := by simpa using g'
              clear g g'
              go_wp2_with fail
              go_ret
              exact ⟨by rw [HE.out, g1, g2]; rfl, HB.out⟩
          · have g1 : decide (-4294967296 ≤ d) = false := by simpa using g
            clear g
            go_wp2_with fail
            go_ret
            exact ⟨by rw [HE.out, g1]; rfl, HB.out⟩
end Go.Proofs.Ytcibndlpnfikhaa
