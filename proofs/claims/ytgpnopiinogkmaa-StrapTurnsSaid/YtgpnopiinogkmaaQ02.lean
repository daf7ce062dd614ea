/- Contracts of the program's functions and plain laws, part 2: they hold for all arguments. -/
import Derived.Test.YtgpnopiinogkmaaQ01
import Derived.Lib.BitFns
import Derived.Lib.ItoaNum
/- Plain: division of 128 bits by 64, as math/bits does it (Knuth's algorithm D). No program here. -/
namespace Go.Proofs.Ytgpnopiinogkmaa

theorem kn_mulY (q a b Y : Int) (hY : Y = a * 4294967296 + b) : q * Y = q * a * 4294967296 + q * b := by
  rw [hY, Int.mul_add, Int.mul_assoc]
/-- What holds at a round's head: q is no smaller than the true digit. -/
structure KInv (u v Y a b q r : Int) : Prop where
  sum : q * a + r = u
  ge : (u * 4294967296 + v) / Y ≤ q
  r0 : 0 ≤ r
  r1 : r < 4294967296
  q1 : q ≤ 4294967297
/-- What is known of the divisor's halves and the number's. -/
structure KNum (u v Y a b : Int) : Prop where
  hY : Y = a * 4294967296 + b
  a0 : 2147483648 ≤ a
  a1 : a < 4294967296
  b0 : 0 ≤ b
  b1 : b < 4294967296
  u0 : 0 ≤ u
  u1 : u < Y
  v0 : 0 ≤ v
  v1 : v < 4294967296
theorem KNum.Y0 {u v Y a b : Int} (n : KNum u v Y a b) : 0 < Y := by have := n.hY; have := n.a0; have := n.b0; omega
theorem KNum.Q0 {u v Y a b : Int} (n : KNum u v Y a b) : 0 ≤ (u * 4294967296 + v) / Y := Int.ediv_nonneg (by have := n.u0; have := n.v0; omega) (Int.le_of_lt n.Y0)
theorem KNum.Q1 {u v Y a b : Int} (n : KNum u v Y a b) : (u * 4294967296 + v) / Y < 4294967296 :=
  Int.ediv_lt_of_lt_mul n.Y0 (by have := n.u1; have := n.v1; omega)
theorem KInv.start {u v Y a b : Int} (n : KNum u v Y a b) : KInv u v Y a b (u / a) (u - u / a * a) := by
  have ha : 0 < a := by have := n.a0; omega
  have hm := Int.emod_nonneg u (Int.ne_of_gt ha)
  have hm2 := Int.emod_lt_of_pos u ha
  have hd := Int.mul_ediv_add_emod u a
  rw [Int.mul_comm] at hd
  have hr : u - u / a * a = u % a := by omega
  refine ⟨by omega, ?_, by omega, by have := n.a1; omega, ?_⟩
  · apply Int.le_of_lt_add_one
    apply Int.ediv_lt_of_lt_mul n.Y0
    rw [kn_mulY (u / a + 1) a b Y n.hY]
    have h1 : (u / a + 1) * a = u / a * a + a := by rw [Int.add_mul, Int.one_mul]
    have h2 : 0 ≤ (u / a + 1) * b := Int.mul_nonneg (by have := Int.ediv_nonneg n.u0 (Int.le_of_lt ha); omega) n.b0
    rw [h1]
    have := n.v1
    omega
  · apply Int.le_of_lt_add_one
    apply Int.ediv_lt_of_lt_mul ha
    have := n.u1; have := n.hY; have := n.b1; have := n.a0
    omega
theorem kn_key {u v Y a b q r : Int} (n : KNum u v Y a b) (s : q * a + r = u) : u * 4294967296 + v - q * Y = 4294967296 * r + v - q * b := by
  rw [kn_mulY q a b Y n.hY, ← s]
  omega
/-- The test says: too great. -/
theorem KInv.less {u v Y a b q r : Int} (n : KNum u v Y a b) (i : KInv u v Y a b q r) (h : 4294967296 ≤ q ∨ 4294967296 * r + v < q * b) :
    (u * 4294967296 + v) / Y ≤ q - 1 ∧ 1 ≤ q := by
  have hq : (u * 4294967296 + v) / Y ≤ q - 1 := by
    rcases h with h | h
    · have := n.Q1; omega
    · have := kn_key n i.sum
      have h2 : (u * 4294967296 + v) / Y < q := Int.ediv_lt_of_lt_mul n.Y0 (by omega)
      omega
  have := n.Q0
  exact ⟨hq, by omega⟩
theorem KInv.next {u v Y a b q r : Int} (n : KNum u v Y a b) (i : KInv u v Y a b q r) (h : 4294967296 ≤ q ∨ 4294967296 * r + v < q * b) (hr : r + a < 4294967296) :
    KInv u v Y a b (q - 1) (r + a) := by
  obtain ⟨h1, _⟩ := i.less n h
  refine ⟨?_, h1, by have := i.r0; have := n.a0; omega, hr, by have := i.q1; omega⟩
  have := i.sum
  rw [Int.sub_mul, Int.one_mul]; omega
theorem KInv.broke {u v Y a b q r : Int} (n : KNum u v Y a b) (i : KInv u v Y a b q r) (h : 4294967296 ≤ q ∨ 4294967296 * r + v < q * b) (hr : 4294967296 ≤ r + a) :
    q - 1 = (u * 4294967296 + v) / Y := by
  obtain ⟨h1, h2⟩ := i.less n h
  have s : (q - 1) * a + (r + a) = u := by have := i.sum; rw [Int.sub_mul, Int.one_mul]; omega
  have k := kn_key n s
  have hb : (q - 1) * b ≤ 4294967296 * b := Int.mul_le_mul_of_nonneg_right (by have := i.q1; omega) n.b0
  have : q - 1 ≤ (u * 4294967296 + v) / Y := Int.le_ediv_of_mul_le n.Y0 (by have := n.b1; have := n.v0; omega)
  omega
theorem KInv.done {u v Y a b q r : Int} (n : KNum u v Y a b) (i : KInv u v Y a b q r) (h : ¬ 4294967296 * r + v < q * b) : q = (u * 4294967296 + v) / Y := by
  have k := kn_key n i.sum
  have : q ≤ (u * 4294967296 + v) / Y := Int.le_ediv_of_mul_le n.Y0 (by omega)
  have := i.ge
  omega
theorem KInv.q0 {u v Y a b q r : Int} (n : KNum u v Y a b) (i : KInv u v Y a b q r) : 0 ≤ q := by have := n.Q0; have := i.ge; omega
theorem KInv.qb {u v Y a b q r : Int} (n : KNum u v Y a b) (i : KInv u v Y a b q r) (h : ¬ 4294967296 ≤ q) : 0 ≤ q * b ∧ q * b < 18446744073709551616 := by
  have := i.q0 n
  refine ⟨Int.mul_nonneg this n.b0, ?_⟩
  have h1 : q * b ≤ 4294967295 * b := Int.mul_le_mul_of_nonneg_right (by omega) n.b0
  have := n.b1
  omega
end Go.Proofs.Ytgpnopiinogkmaa
/- Contract of math/bits.Div64. -/
namespace Go.Proofs.Ytgpnopiinogkmaa
open Go.RowKit
set_option maxRecDepth 100000
set_option maxHeartbeats 1000000 in
theorem div64_big (x y d s Y a b u v v1 v0 q r u2 q2 r2 Q1 Q2 t1 t2 t3 t4 t5 R : Int) (w : World) (x0 : 0 < x) (x1 : x < d)
    (s0 : 0 ≤ s) (s1 : s < 64)
    (lz : ∀ w, Calls Try.prog 89 #[.int .u64 d] w fun e w' => e = .returned (.int .i64 s) ∧ w = w')
    (e1 : IntKind.u64.wrap (d * 2 ^ s.toNat) = Y) (e2 : Y / 4294967296 = a) (a0 : 0 < a) (e3 : bits .and .u64 Y 4294967295 = b)
    (e4 : bits .or .u64 (IntKind.u64.wrap (x * 2 ^ s.toNat)) (y / 2 ^ (64 - s).toNat) = u) (e5 : IntKind.u64.wrap (y * 2 ^ s.toNat) = v)
    (e6 : v / 4294967296 = v1) (e7 : bits .and .u64 v 4294967295 = v0) (e8 : IntKind.u64.wrap (u.tdiv a) = q) (e9 : IntKind.u64.wrap (u - IntKind.u64.wrap (q * a)) = r)
    (n1 : KNum u v1 Y a b) (i1 : KInv u v1 Y a b q r) (hQ1 : Hid ((u * 4294967296 + v1) / Y = Q1))
    (f1 : IntKind.u64.wrap (IntKind.u64.wrap (u * 4294967296) + v1) = t1) (f2 : IntKind.u64.wrap (Q1 * Y) = t2) (f3 : IntKind.u64.wrap (t1 - t2) = u2)
    (f4 : IntKind.u64.wrap (u2.tdiv a) = q2) (f5 : IntKind.u64.wrap (u2 - IntKind.u64.wrap (q2 * a)) = r2)
    (n2 : KNum u2 v0 Y a b) (i2 : KInv u2 v0 Y a b q2 r2) (hQ2 : Hid ((u2 * 4294967296 + v0) / Y = Q2))
    (g1 : IntKind.u64.wrap (IntKind.u64.wrap (Q1 * 4294967296) + Q2) = t3) (g2 : IntKind.u64.wrap (IntKind.u64.wrap (u2 * 4294967296) + v0) = t4)
    (g3 : IntKind.u64.wrap (t4 - IntKind.u64.wrap (Q2 * Y)) = t5) (g4 : t5 / 2 ^ s.toNat = R)
    :
    Calls Try.prog 85 #[.int .u64 x, .int .u64 y, .int .u64 d] w fun e w' => e = .returned (.tuple #[.int .u64 t3, .int .u64 R]) ∧ w = w' := by
  have c1 : ¬ d ≤ x := by omega
  have c2 : (d == 0) = false := by simp; omega
  have c3 : (x == 0) = false := by simp; omega
  have N1 := Lib.hid n1
  have N2 := Lib.hid n2
  have I1 := Lib.hid i1
  have I2 := Lib.hid i2
  clear n1 n2 i1 i2
  go_enter Try.func85, Try.ntmps85
  go_wp2_with (go_at_call 89; refine (lz _).mono ?_; rintro e w' ⟨rfl, rfl⟩)
  go_loop [15, 16] (fun A B => ∃ q r : Int, A = .int .u64 q ∧ B = .int .u64 r ∧ Hid (KInv u v1 Y a b q r)) (fun A _ => (intOf A).toNat)
  case atStart => exact ⟨_, _, rfl, rfl, I1⟩
  case round =>
    obtain ⟨q, r, rfl, rfl, I⟩ := hrel
    by_cases h1 : 4294967296 ≤ q
    · have H := Lib.hid (Or.inl h1 : 4294967296 ≤ q ∨ 4294967296 * r + v1 < q * b)
      have hl := I.out.less N1.out H.out
      have hqb := I.out.q1
      have hr0 := I.out.r0
      have hr1 := I.out.r1
      have ha1 := N1.out.a1
      by_cases hr : r + a < 4294967296
      · have nx := Lib.hid (I.out.next N1.out H.out hr)
        obtain ⟨q', hq'⟩ : ∃ q' : Int, q - 1 = q' := ⟨_, rfl⟩
        obtain ⟨r', hr'⟩ : ∃ r' : Int, r + a = r' := ⟨_, rfl⟩
        rw [hq', hr'] at nx
        have w1 : IntKind.u64.wrap (q - 1) = q' := by rw [IntKind.wrap_u64]; omega
        have w2 : IntKind.u64.wrap (r + a) = r' := by rw [IntKind.wrap_u64]; omega
        have w3 : ¬ 4294967296 ≤ r' := by omega
        have hm : q'.toNat < q.toNat := by omega
        have M := Lib.hid hm
        clear hl hqb hr0 hr1 ha1 hr hq' hr' hm
        go_wp2
        go_round
        case rel => exact ⟨q', r', rfl, rfl, nx⟩
        case measure => (have hm := M.out; simp [intOf]; omega)
      · have bk := (I.out.broke N1.out H.out (by omega)).trans hQ1.out
        obtain ⟨r', hr'⟩ : ∃ r' : Int, r + a = r' := ⟨_, rfl⟩
        have w1 : IntKind.u64.wrap (q - 1) = Q1 := by rw [IntKind.wrap_u64]; omega
        have w2 : IntKind.u64.wrap (r + a) = r' := by rw [IntKind.wrap_u64]; omega
        have w3 : 4294967296 ≤ r' := by omega
        clear hl hqb hr0 hr1 ha1 hr hr' bk
        go_wp2
        go_loop [18, 16] (fun A B => ∃ q r : Int, A = .int .u64 q ∧ B = .int .u64 r ∧ Hid (KInv u2 v0 Y a b q r)) (fun A _ => (intOf A).toNat)
        case atStart => exact ⟨_, _, rfl, rfl, I2⟩
        case round =>
          obtain ⟨q, r, rfl, rfl, I⟩ := hrel
          by_cases h1 : 4294967296 ≤ q
          · have H := Lib.hid (Or.inl h1 : 4294967296 ≤ q ∨ 4294967296 * r + v0 < q * b)
            have hl := I.out.less N2.out H.out
            have hqb := I.out.q1
            have hr0 := I.out.r0
            have hr1 := I.out.r1
            have ha1 := N2.out.a1
            by_cases hr : r + a < 4294967296
            · have nx := Lib.hid (I.out.next N2.out H.out hr)
              obtain ⟨q', hq'⟩ : ∃ q' : Int, q - 1 = q' := ⟨_, rfl⟩
              obtain ⟨r', hr'⟩ : ∃ r' : Int, r + a = r' := ⟨_, rfl⟩
              rw [hq', hr'] at nx
              have w1 : IntKind.u64.wrap (q - 1) = q' := by rw [IntKind.wrap_u64]; omega
              have w2 : IntKind.u64.wrap (r + a) = r' := by rw [IntKind.wrap_u64]; omega
              have w3 : ¬ 4294967296 ≤ r' := by omega
              have hm : q'.toNat < q.toNat := by omega
              have M := Lib.hid hm
              clear hl hqb hr0 hr1 ha1 hr hq' hr' hm
              go_wp2
              go_round
              case rel => exact ⟨q', r', rfl, rfl, nx⟩
              case measure => (have hm := M.out; simp [intOf]; omega)
            · have bk := (I.out.broke N2.out H.out (by omega)).trans hQ2.out
              obtain ⟨r', hr'⟩ : ∃ r' : Int, r + a = r' := ⟨_, rfl⟩
              have w1 : IntKind.u64.wrap (q - 1) = Q2 := by rw [IntKind.wrap_u64]; omega
              have w2 : IntKind.u64.wrap (r + a) = r' := by rw [IntKind.wrap_u64]; omega
              have w3 : 4294967296 ≤ r' := by omega
              clear hl hqb hr0 hr1 ha1 hr hr' bk
              go_wp2
              go_ret2
              exact ⟨rfl, rfl⟩
          · obtain ⟨k0, k1⟩ := I.out.qb N2.out h1
            have k2 := I.out.r0
            have k3 := I.out.r1
            have k4 := N2.out.v0
            have k5 := N2.out.v1
            obtain ⟨x1, hx1⟩ : ∃ x1 : Int, q * b = x1 := ⟨_, rfl⟩
            obtain ⟨x2, hx2⟩ : ∃ x2 : Int, 4294967296 * r + v0 = x2 := ⟨_, rfl⟩
            have w5 : IntKind.u64.wrap (q * b) = x1 := by rw [IntKind.wrap_u64]; omega
            have w6 : IntKind.u64.wrap (IntKind.u64.wrap (4294967296 * r) + v0) = x2 := by simp only [IntKind.wrap_u64]; omega
            by_cases h2 : x2 < x1
            · have H := Lib.hid (Or.inr (by omega) : 4294967296 ≤ q ∨ 4294967296 * r + v0 < q * b)
              clear k0 k1 k2 k3 k4 k5 hx1 hx2
              have hl := I.out.less N2.out H.out
              have hqb := I.out.q1
              have hr0 := I.out.r0
              have hr1 := I.out.r1
              have ha1 := N2.out.a1
              by_cases hr : r + a < 4294967296
              · have nx := Lib.hid (I.out.next N2.out H.out hr)
                obtain ⟨q', hq'⟩ : ∃ q' : Int, q - 1 = q' := ⟨_, rfl⟩
                obtain ⟨r', hr'⟩ : ∃ r' : Int, r + a = r' := ⟨_, rfl⟩
                rw [hq', hr'] at nx
                have w1 : IntKind.u64.wrap (q - 1) = q' := by rw [IntKind.wrap_u64]; omega
                have w2 : IntKind.u64.wrap (r + a) = r' := by rw [IntKind.wrap_u64]; omega
                have w3 : ¬ 4294967296 ≤ r' := by omega
                have hm : q'.toNat < q.toNat := by omega
                have M := Lib.hid hm
                clear hl hqb hr0 hr1 ha1 hr hq' hr' hm
                go_wp2
                go_round
                case rel => exact ⟨q', r', rfl, rfl, nx⟩
                case measure => (have hm := M.out; simp [intOf]; omega)
              · have bk := (I.out.broke N2.out H.out (by omega)).trans hQ2.out
                obtain ⟨r', hr'⟩ : ∃ r' : Int, r + a = r' := ⟨_, rfl⟩
                have w1 : IntKind.u64.wrap (q - 1) = Q2 := by rw [IntKind.wrap_u64]; omega
                have w2 : IntKind.u64.wrap (r + a) = r' := by rw [IntKind.wrap_u64]; omega
                have w3 : 4294967296 ≤ r' := by omega
                clear hl hqb hr0 hr1 ha1 hr hr' bk
                go_wp2
                go_ret2
                exact ⟨rfl, rfl⟩
            · have dn := (I.out.done N2.out (by omega)).trans hQ2.out
              subst dn
              clear k0 k1 k2 k3 k4 k5 hx1 hx2
              go_wp2
              go_ret2
              exact ⟨rfl, rfl⟩
    · obtain ⟨k0, k1⟩ := I.out.qb N1.out h1
      have k2 := I.out.r0
      have k3 := I.out.r1
      have k4 := N1.out.v0
      have k5 := N1.out.v1
      obtain ⟨x1, hx1⟩ : ∃ x1 : Int, q * b = x1 := ⟨_, rfl⟩
      obtain ⟨x2, hx2⟩ : ∃ x2 : Int, 4294967296 * r + v1 = x2 := ⟨_, rfl⟩
      have w5 : IntKind.u64.wrap (q * b) = x1 := by rw [IntKind.wrap_u64]; omega
      have w6 : IntKind.u64.wrap (IntKind.u64.wrap (4294967296 * r) + v1) = x2 := by simp only [IntKind.wrap_u64]; omega
      by_cases h2 : x2 < x1
      · have H := Lib.hid (Or.inr (by omega) : 4294967296 ≤ q ∨ 4294967296 * r + v1 < q * b)
        clear k0 k1 k2 k3 k4 k5 hx1 hx2
        have hl := I.out.less N1.out H.out
        have hqb := I.out.q1
        have hr0 := I.out.r0
        have hr1 := I.out.r1
        have ha1 := N1.out.a1
        by_cases hr : r + a < 4294967296
        · have nx := Lib.hid (I.out.next N1.out H.out hr)
          obtain ⟨q', hq'⟩ : ∃ q' : Int, q - 1 = q' := ⟨_, rfl⟩
          obtain ⟨r', hr'⟩ : ∃ r' : Int, r + a = r' := ⟨_, rfl⟩
          rw [hq', hr'] at nx
          have w1 : IntKind.u64.wrap (q - 1) = q' := by rw [IntKind.wrap_u64]; omega
          have w2 : IntKind.u64.wrap (r + a) = r' := by rw [IntKind.wrap_u64]; omega
          have w3 : ¬ 4294967296 ≤ r' := by omega
          have hm : q'.toNat < q.toNat := by omega
          have M := Lib.hid hm
          clear hl hqb hr0 hr1 ha1 hr hq' hr' hm
          go_wp2
          go_round
          case rel => exact ⟨q', r', rfl, rfl, nx⟩
          case measure => (have hm := M.out; simp [intOf]; omega)
        · have bk := (I.out.broke N1.out H.out (by omega)).trans hQ1.out
          obtain ⟨r', hr'⟩ : ∃ r' : Int, r + a = r' := ⟨_, rfl⟩
          have w1 : IntKind.u64.wrap (q - 1) = Q1 := by rw [IntKind.wrap_u64]; omega
          have w2 : IntKind.u64.wrap (r + a) = r' := by rw [IntKind.wrap_u64]; omega
          have w3 : 4294967296 ≤ r' := by omega
          clear hl hqb hr0 hr1 ha1 hr hr' bk
          go_wp2
          go_loop [18, 16] (fun A B => ∃ q r : Int, A = .int .u64 q ∧ B = .int .u64 r ∧ Hid (KInv u2 v0 Y a b q r)) (fun A _ => (intOf A).toNat)
          case atStart => exact ⟨_, _, rfl, rfl, I2⟩
          case round =>
            obtain ⟨q, r, rfl, rfl, I⟩ := hrel
            by_cases h1 : 4294967296 ≤ q
            · have H := Lib.hid (Or.inl h1 : 4294967296 ≤ q ∨ 4294967296 * r + v0 < q * b)
              have hl := I.out.less N2.out H.out
              have hqb := I.out.q1
              have hr0 := I.out.r0
              have hr1 := I.out.r1
              have ha1 := N2.out.a1
              by_cases hr : r + a < 4294967296
              · have nx := Lib.hid (I.out.next N2.out H.out hr)
                obtain ⟨q', hq'⟩ : ∃ q' : Int, q - 1 = q' := ⟨_, rfl⟩
                obtain ⟨r', hr'⟩ : ∃ r' : Int, r + a = r' := ⟨_, rfl⟩
                rw [hq', hr'] at nx
                have w1 : IntKind.u64.wrap (q - 1) = q' := by rw [IntKind.wrap_u64]; omega
                have w2 : IntKind.u64.wrap (r + a) = r' := by rw [IntKind.wrap_u64]; omega
                have w3 : ¬ 4294967296 ≤ r' := by omega
                have hm : q'.toNat < q.toNat := by omega
                have M := Lib.hid hm
                clear hl hqb hr0 hr1 ha1 hr hq' hr' hm
                go_wp2
                go_round
                case rel => exact ⟨q', r', rfl, rfl, nx⟩
                case measure => (have hm := M.out; simp [intOf]; omega)
              · have bk := (I.out.broke N2.out H.out (by omega)).trans hQ2.out
                obtain ⟨r', hr'⟩ : ∃ r' : Int, r + a = r' := ⟨_, rfl⟩
                have w1 : IntKind.u64.wrap (q - 1) = Q2 := by rw [IntKind.wrap_u64]; omega
                have w2 : IntKind.u64.wrap (r + a) = r' := by rw [IntKind.wrap_u64]; omega
                have w3 : 4294967296 ≤ r' := by omega
                clear hl hqb hr0 hr1 ha1 hr hr' bk
                go_wp2
                go_ret2
                exact ⟨rfl, rfl⟩
            · obtain ⟨k0, k1⟩ := I.out.qb N2.out h1
              have k2 := I.out.r0
              have k3 := I.out.r1
              have k4 := N2.out.v0
              have k5 := N2.out.v1
              obtain ⟨x1, hx1⟩ : ∃ x1 : Int, q * b = x1 := ⟨_, rfl⟩
              obtain ⟨x2, hx2⟩ : ∃ x2 : Int, 4294967296 * r + v0 = x2 := ⟨_, rfl⟩
              have w5 : IntKind.u64.wrap (q * b) = x1 := by rw [IntKind.wrap_u64]; omega
              have w6 : IntKind.u64.wrap (IntKind.u64.wrap (4294967296 * r) + v0) = x2 := by simp only [IntKind.wrap_u64]; omega
              by_cases h2 : x2 < x1
              · have H := Lib.hid (Or.inr (by omega) : 4294967296 ≤ q ∨ 4294967296 * r + v0 < q * b)
                clear k0 k1 k2 k3 k4 k5 hx1 hx2
                have hl := I.out.less N2.out H.out
                have hqb := I.out.q1
                have hr0 := I.out.r0
                have hr1 := I.out.r1
                have ha1 := N2.out.a1
                by_cases hr : r + a < 4294967296
                · have nx := Lib.hid (I.out.next N2.out H.out hr)
                  obtain ⟨q', hq'⟩ : ∃ q' : Int, q - 1 = q' := ⟨_, rfl⟩
                  obtain ⟨r', hr'⟩ : ∃ r' : Int, r + a = r' := ⟨_, rfl⟩
                  rw [hq', hr'] at nx
                  have w1 : IntKind.u64.wrap (q - 1) = q' := by rw [IntKind.wrap_u64]; omega
                  have w2 : IntKind.u64.wrap (r + a) = r' := by rw [IntKind.wrap_u64]; omega
                  have w3 : ¬ 4294967296 ≤ r' := by omega
                  have hm : q'.toNat < q.toNat := by omega
                  have M := Lib.hid hm
                  clear hl hqb hr0 hr1 ha1 hr hq' hr' hm
                  go_wp2
                  go_round
                  case rel => exact ⟨q', r', rfl, rfl, nx⟩
                  case measure => (have hm := M.out; simp [intOf]; omega)
                · have bk := (I.out.broke N2.out H.out (by omega)).trans hQ2.out
                  obtain ⟨r', hr'⟩ : ∃ r' : Int, r + a = r' := ⟨_, rfl⟩
                  have w1 : IntKind.u64.wrap (q - 1) = Q2 := by rw [IntKind.wrap_u64]; omega
                  have w2 : IntKind.u64.wrap (r + a) = r' := by rw [IntKind.wrap_u64]; omega
                  have w3 : 4294967296 ≤ r' := by omega
                  clear hl hqb hr0 hr1 ha1 hr hr' bk
                  go_wp2
                  go_ret2
                  exact ⟨rfl, rfl⟩
              · have dn := (I.out.done N2.out (by omega)).trans hQ2.out
                subst dn
                clear k0 k1 k2 k3 k4 k5 hx1 hx2
                go_wp2
                go_ret2
                exact ⟨rfl, rfl⟩
      · have dn := (I.out.done N1.out (by omega)).trans hQ1.out
        subst dn
        clear k0 k1 k2 k3 k4 k5 hx1 hx2
        go_wp2
        go_loop [18, 16] (fun A B => ∃ q r : Int, A = .int .u64 q ∧ B = .int .u64 r ∧ Hid (KInv u2 v0 Y a b q r)) (fun A _ => (intOf A).toNat)
        case atStart => exact ⟨_, _, rfl, rfl, I2⟩
        case round =>
          obtain ⟨q, r, rfl, rfl, I⟩ := hrel
          by_cases h1 : 4294967296 ≤ q
          · have H := Lib.hid (Or.inl h1 : 4294967296 ≤ q ∨ 4294967296 * r + v0 < q * b)
            have hl := I.out.less N2.out H.out
            have hqb := I.out.q1
            have hr0 := I.out.r0
            have hr1 := I.out.r1
            have ha1 := N2.out.a1
            by_cases hr : r + a < 4294967296
            · have nx := Lib.hid (I.out.next N2.out H.out hr)
              obtain ⟨q', hq'⟩ : ∃ q' : Int, q - 1 = q' := ⟨_, rfl⟩
              obtain ⟨r', hr'⟩ : ∃ r' : Int, r + a = r' := ⟨_, rfl⟩
              rw [hq', hr'] at nx
              have w1 : IntKind.u64.wrap (q - 1) = q' := by rw [IntKind.wrap_u64]; omega
              have w2 : IntKind.u64.wrap (r + a) = r' := by rw [IntKind.wrap_u64]; omega
              have w3 : ¬ 4294967296 ≤ r' := by omega
              have hm : q'.toNat < q.toNat := by omega
              have M := Lib.hid hm
              clear hl hqb hr0 hr1 ha1 hr hq' hr' hm
              go_wp2
              go_round
              case rel => exact ⟨q', r', rfl, rfl, nx⟩
              case measure => (have hm := M.out; simp [intOf]; omega)
            · have bk := (I.out.broke N2.out H.out (by omega)).trans hQ2.out
              obtain ⟨r', hr'⟩ : ∃ r' : Int, r + a = r' := ⟨_, rfl⟩
              have w1 : IntKind.u64.wrap (q - 1) = Q2 := by rw [IntKind.wrap_u64]; omega
              have w2 : IntKind.u64.wrap (r + a) = r' := by rw [IntKind.wrap_u64]; omega
              have w3 : 4294967296 ≤ r' := by omega
              clear hl hqb hr0 hr1 ha1 hr hr' bk
              go_wp2
              go_ret2
              exact ⟨rfl, rfl⟩
          · obtain ⟨k0, k1⟩ := I.out.qb N2.out h1
            have k2 := I.out.r0
            have k3 := I.out.r1
            have k4 := N2.out.v0
            have k5 := N2.out.v1
            obtain ⟨x1, hx1⟩ : ∃ x1 : Int, q * b = x1 := ⟨_, rfl⟩
            obtain ⟨x2, hx2⟩ : ∃ x2 : Int, 4294967296 * r + v0 = x2 := ⟨_, rfl⟩
            have w5 : IntKind.u64.wrap (q * b) = x1 := by rw [IntKind.wrap_u64]; omega
            have w6 : IntKind.u64.wrap (IntKind.u64.wrap (4294967296 * r) + v0) = x2 := by simp only [IntKind.wrap_u64]; omega
            by_cases h2 : x2 < x1
            · have H := Lib.hid (Or.inr (by omega) : 4294967296 ≤ q ∨ 4294967296 * r + v0 < q * b)
              clear k0 k1 k2 k3 k4 k5 hx1 hx2
              have hl := I.out.less N2.out H.out
              have hqb := I.out.q1
              have hr0 := I.out.r0
              have hr1 := I.out.r1
              have ha1 := N2.out.a1
              by_cases hr : r + a < 4294967296
              · have nx := Lib.hid (I.out.next N2.out H.out hr)
                obtain ⟨q', hq'⟩ : ∃ q' : Int, q - 1 = q' := ⟨_, rfl⟩
                obtain ⟨r', hr'⟩ : ∃ r' : Int, r + a = r' := ⟨_, rfl⟩
                rw [hq', hr'] at nx
                have w1 : IntKind.u64.wrap (q - 1) = q' := by rw [IntKind.wrap_u64]; omega
                have w2 : IntKind.u64.wrap (r + a) = r' := by rw [IntKind.wrap_u64]; omega
                have w3 : ¬ 4294967296 ≤ r' := by omega
                have hm : q'.toNat < q.toNat := by omega
                have M := Lib.hid hm
                clear hl hqb hr0 hr1 ha1 hr hq' hr' hm
                go_wp2
                go_round
                case rel => exact ⟨q', r', rfl, rfl, nx⟩
                case measure => (have hm := M.out; simp [intOf]; omega)
              · have bk := (I.out.broke N2.out H.out (by omega)).trans hQ2.out
                obtain ⟨r', hr'⟩ : ∃ r' : Int, r + a = r' := ⟨_, rfl⟩
                have w1 : IntKind.u64.wrap (q - 1) = Q2 := by rw [IntKind.wrap_u64]; omega
                have w2 : IntKind.u64.wrap (r + a) = r' := by rw [IntKind.wrap_u64]; omega
                have w3 : 4294967296 ≤ r' := by omega
                clear hl hqb hr0 hr1 ha1 hr hr' bk
                go_wp2
                go_ret2
                exact ⟨rfl, rfl⟩
            · have dn := (I.out.done N2.out (by omega)).trans hQ2.out
              subst dn
              clear k0 k1 k2 k3 k4 k5 hx1 hx2
              go_wp2
              go_ret2
              exact ⟨rfl, rfl⟩
end Go.Proofs.Ytgpnopiinogkmaa
/- Contract of math/bits.Div64: the whole. -/
namespace Go.Proofs.Ytgpnopiinogkmaa
open Go.RowKit
set_option maxRecDepth 100000
theorem lz_facts (d : Int) (d0 : 0 < d) (d1 : d < 18446744073709551616) :
    ∃ s : Nat, s < 64 ∧ (64 - (Lib.bitLen d.toNat : Int)) = s ∧ 9223372036854775808 ≤ d * 2 ^ s ∧ d * 2 ^ s < 18446744073709551616 := by
  obtain ⟨n, rfl⟩ := Int.eq_ofNat_of_zero_le (Int.le_of_lt d0)
  have hb := Lib.bitLenAux_bounds 64 n (by omega) (by omega)
  rw [Int.toNat_natCast]
  have hle := Lib.bitLen_le n 64 (by omega) (by omega)
  unfold Lib.bitLen at *
  generalize Lib.bitLenAux 64 n = k at *
  obtain ⟨h1, h2, h3⟩ := hb
  refine ⟨64 - k, by omega, by omega, ?_, ?_⟩
  · have : 2 ^ (k - 1) * 2 ^ (64 - k) ≤ n * 2 ^ (64 - k) := Nat.mul_le_mul_right _ h2
    rw [← Nat.pow_add, show k - 1 + (64 - k) = 63 from by omega] at this
    have e : ((n : Int) * 2 ^ (64 - k)) = ((n * 2 ^ (64 - k) : Nat) : Int) := by simp
    rw [e]; omega
  · have : n * 2 ^ (64 - k) < 2 ^ k * 2 ^ (64 - k) := Nat.mul_lt_mul_of_pos_right h3 (Nat.two_pow_pos _)
    rw [← Nat.pow_add, show k + (64 - k) = 64 from by omega] at this
    have e : ((n : Int) * 2 ^ (64 - k)) = ((n * 2 ^ (64 - k) : Nat) : Int) := by simp
    rw [e]; omega
theorem mask32 (x : Int) (h0 : 0 ≤ x) (h1 : x < 18446744073709551616) : bits .and .u64 x 4294967295 = x % 4294967296 := by
  obtain ⟨a, rfl⟩ := Int.eq_ofNat_of_zero_le h0
  have h := bits_and_u64_nat a 4294967295 (by omega) (by omega)
  have e : a &&& 4294967295 = a % 4294967296 := Nat.and_two_pow_sub_one_eq_mod a 32
  rw [e] at h
  exact h.trans (by omega)
/-- The dividend, shifted: its two halves. -/
theorem shifted_halves (x y : Int) (s : Nat) (x0 : 0 ≤ x) (x1 : x < 18446744073709551616) (y0 : 0 ≤ y) (y1 : y < 18446744073709551616) (hs : s < 64) (hx : x * 2 ^ s < 18446744073709551616) :
    ∃ u v : Int, bits .or .u64 (IntKind.u64.wrap (x * 2 ^ s)) (y / 2 ^ (64 - s)) = u ∧ IntKind.u64.wrap (y * 2 ^ s) = v ∧ 0 ≤ u ∧ 0 ≤ v ∧ v < 18446744073709551616 ∧
      u * 18446744073709551616 + v = (x * 18446744073709551616 + y) * 2 ^ s ∧ u < x * 2 ^ s + 2 ^ s := by
  obtain ⟨x, rfl⟩ := Int.eq_ofNat_of_zero_le x0
  obtain ⟨y, rfl⟩ := Int.eq_ofNat_of_zero_le y0
  have ex : ((x : Int) * 2 ^ s) = ((x * 2 ^ s : Nat) : Int) := by simp
  have ey : ((y : Int) * 2 ^ s) = ((y * 2 ^ s : Nat) : Int) := by simp
  have ed : ((y : Int) / 2 ^ (64 - s)) = ((y / 2 ^ (64 - s) : Nat) : Int) := by simp
  have ep : ((2 : Int) ^ s) = ((2 ^ s : Nat) : Int) := by simp
  rw [ex] at hx
  have e := pow_split s hs
  have hp : 0 < 2 ^ s := Nat.two_pow_pos s
  have hq : 0 < 2 ^ (64 - s) := Nat.two_pow_pos _
  have hy : y / 2 ^ (64 - s) < 2 ^ s := by
    rw [Nat.div_lt_iff_lt_mul hq, e]; omega
  have hwx : IntKind.u64.wrap ((x * 2 ^ s : Nat) : Int) = ((x * 2 ^ s : Nat) : Int) := by rw [IntKind.wrap_u64]; omega
  have hor : (x * 2 ^ s) ||| (y / 2 ^ (64 - s)) = x * 2 ^ s + y / 2 ^ (64 - s) := by
    rw [Nat.mul_comm x, Nat.two_pow_add_eq_or_of_lt hy]
  have hps : 2 ^ s ≤ 18446744073709551616 := by rw [← e]; exact Nat.le_mul_of_pos_right _ hq
  refine ⟨_, _, rfl, rfl, ?_⟩
  rw [ex, ey, ed, hwx, bits_or_u64_nat _ _ (by omega) (by omega), hor, IntKind.wrap_u64, ep]
  have hm := Nat.div_add_mod (y * 2 ^ s) 18446744073709551616
  have hdd : y * 2 ^ s / 18446744073709551616 = y / 2 ^ (64 - s) := by
    rw [← e, Nat.mul_comm y]; exact Nat.mul_div_mul_left _ _ hp
  have hmul : (((x : Int) * 18446744073709551616 + y) * ((2 ^ s : Nat) : Int)) = ((x * 2 ^ s : Nat) : Int) * 18446744073709551616 + ((y * 2 ^ s : Nat) : Int) := by
    rw [Int.add_mul, Int.mul_assoc, Int.mul_comm 18446744073709551616, ← Int.mul_assoc, Int.natCast_mul, Int.natCast_mul]
  rw [hmul]
  generalize x * 2 ^ s = X at *
  generalize y * 2 ^ s = W at *
  generalize y / 2 ^ (64 - s) = Z at *
  generalize 2 ^ s = p at *
  omega
theorem div_scale (T d p : Int) (hp : 0 < p) : T * p / (d * p) = T / d ∧ T * p % (d * p) = T % d * p := by
  refine ⟨Int.mul_ediv_mul_of_pos_left T d hp, ?_⟩
  rw [Int.mul_comm T, Int.mul_comm d, Int.mul_emod_mul_of_pos _ _ hp, Int.mul_comm]
/-- Two digits of 32 bits. -/
theorem two_digits (u v1 v0 Y : Int) (hY : 0 < Y) :
    (u * 4294967296 * 4294967296 + v1 * 4294967296 + v0) / Y = (u * 4294967296 + v1) / Y * 4294967296 + ((u * 4294967296 + v1) % Y * 4294967296 + v0) / Y ∧
    (u * 4294967296 * 4294967296 + v1 * 4294967296 + v0) % Y = ((u * 4294967296 + v1) % Y * 4294967296 + v0) % Y := by
  have h := Int.mul_ediv_add_emod (u * 4294967296 + v1) Y
  have e : u * 4294967296 * 4294967296 + v1 * 4294967296 + v0 = ((u * 4294967296 + v1) % Y * 4294967296 + v0) + Y * ((u * 4294967296 + v1) / Y * 4294967296) := by
    rw [← Int.mul_assoc]; omega
  rw [e, Int.add_mul_ediv_left _ _ (Int.ne_of_gt hY), Int.add_mul_emod_self_left]
  exact ⟨by omega, rfl⟩

/-- bits.Div64, the dividend's upper half not nought. -/
theorem div64_hi (x y d : Int) (w : World) (x0 : 0 < x) (x1 : x < d) (y0 : 0 ≤ y) (y1 : y < 18446744073709551616) (d1 : d < 18446744073709551616) :
    Calls Try.prog 85 #[.int .u64 x, .int .u64 y, .int .u64 d] w fun e w' =>
      e = .returned (.tuple #[.int .u64 ((x * 18446744073709551616 + y) / d), .int .u64 ((x * 18446744073709551616 + y) % d)]) ∧ w = w' := by
  obtain ⟨s, hs, hlz, hn0, hn1⟩ := lz_facts d (by omega) d1
  have lz : ∀ w, Calls Try.prog 89 #[.int .u64 d] w fun e w' => e = .returned (.int .i64 (s : Int)) ∧ w = w' := fun w =>
    (bits_LeadingZeros64 d w (by omega) (by omega)).mono fun e w' h => ⟨h.1.trans (by rw [hlz]), h.2.symm⟩
  have hp : (0 : Int) < 2 ^ s := Int.pow_pos (by decide)
  have hxs : (x + 1) * 2 ^ s ≤ d * 2 ^ s := Int.mul_le_mul_of_nonneg_right (by omega) (Int.le_of_lt hp)
  rw [Int.add_mul, Int.one_mul] at hxs
  obtain ⟨u, v, e4, e5, u0, v0', v1', huv, hu⟩ := shifted_halves x y s (by omega) (by omega) y0 y1 hs (by omega)
  obtain ⟨Y, hY⟩ : ∃ Y : Int, d * 2 ^ s = Y := ⟨_, rfl⟩
  have hdiv := div_scale (x * 18446744073709551616 + y) d (2 ^ s) hp
  rw [← huv] at hdiv
  rw [hY] at hdiv hxs hn0 hn1
  have w1 : IntKind.u64.wrap (d * 2 ^ s) = Y := by rw [hY, IntKind.wrap_u64]; omega
  have ha := Int.emod_nonneg Y (show (4294967296 : Int) ≠ 0 by decide)
  have hY0 : 0 < Y := by omega
  have n1 : KNum u (v / 4294967296) Y (Y / 4294967296) (Y % 4294967296) := ⟨by omega, by omega, by omega, by omega, by omega, u0, by omega, by omega, by omega⟩
  have i1 := KInv.start n1
  have td := two_digits u (v / 4294967296) (v % 4294967296) Y hY0
  have huv2 : u * 4294967296 * 4294967296 + v / 4294967296 * 4294967296 + v % 4294967296 = u * 18446744073709551616 + v := by omega
  rw [huv2, hdiv.1, hdiv.2] at td
  obtain ⟨Q1, hQ1⟩ : ∃ Q1 : Int, (u * 4294967296 + v / 4294967296) / Y = Q1 := ⟨_, rfl⟩
  obtain ⟨u2, hu2⟩ : ∃ u2 : Int, (u * 4294967296 + v / 4294967296) % Y = u2 := ⟨_, rfl⟩
  have hu2a : 0 ≤ u2 := by rw [← hu2]; exact Int.emod_nonneg _ (Int.ne_of_gt hY0)
  have hu2b : u2 < Y := by rw [← hu2]; exact Int.emod_lt_of_pos _ hY0
  have hm1 := Int.mul_ediv_add_emod (u * 4294967296 + v / 4294967296) Y
  rw [hQ1, hu2, Int.mul_comm] at hm1
  have n2 : KNum u2 (v % 4294967296) Y (Y / 4294967296) (Y % 4294967296) := ⟨by omega, by omega, by omega, by omega, by omega, hu2a, hu2b, by omega, by omega⟩
  have i2 := KInv.start n2
  have q1a := n1.Q0
  have q1b := n1.Q1
  have q2a := n2.Q0
  have q2b := n2.Q1
  obtain ⟨Q2, hQ2⟩ : ∃ Q2 : Int, (u2 * 4294967296 + v % 4294967296) / Y = Q2 := ⟨_, rfl⟩
  obtain ⟨R2, hR2⟩ : ∃ R2 : Int, (u2 * 4294967296 + v % 4294967296) % Y = R2 := ⟨_, rfl⟩
  have hm2 := Int.mul_ediv_add_emod (u2 * 4294967296 + v % 4294967296) Y
  rw [hQ2, hR2, Int.mul_comm] at hm2
  have hR2a : 0 ≤ R2 := by rw [← hR2]; exact Int.emod_nonneg _ (Int.ne_of_gt hY0)
  have hR2b : R2 < Y := by rw [← hR2]; exact Int.emod_lt_of_pos _ hY0
  rw [hQ1] at q1a q1b
  rw [hQ2] at q2a q2b
  rw [hu2, hQ1, hQ2, hR2] at td
  have iq := i1.q0 n1
  have iq2 := i1.q1
  have ir := i1.r0
  have ir2 := i1.r1
  have is1 := i1.sum
  have jq := i2.q0 n2
  have jq2 := i2.q1
  have jr := i2.r0
  have jr2 := i2.r1
  have js1 := i2.sum
  have ht : ∀ z a : Int, 0 ≤ z → 0 ≤ a → z.tdiv a = z / a := fun z a h _ => Int.tdiv_eq_ediv_of_nonneg h
  have hfin : R2 / 2 ^ (s : Int).toNat = (x * 18446744073709551616 + y) % d := by
    rw [Int.toNat_natCast, ← td.2, Int.mul_ediv_cancel _ (Int.ne_of_gt hp)]
  have main := div64_big x y d s Y (Y / 4294967296) (Y % 4294967296) u v (v / 4294967296) (v % 4294967296) (u / (Y / 4294967296)) (u - u / (Y / 4294967296) * (Y / 4294967296))
    u2 (u2 / (Y / 4294967296)) (u2 - u2 / (Y / 4294967296) * (Y / 4294967296)) Q1 Q2 (IntKind.u64.wrap (IntKind.u64.wrap (u * 4294967296) + v / 4294967296)) (IntKind.u64.wrap (Q1 * Y)) (Q1 * 4294967296 + Q2)
    (IntKind.u64.wrap (IntKind.u64.wrap (u2 * 4294967296) + v % 4294967296)) R2 ((x * 18446744073709551616 + y) % d) w x0 x1 (by omega) (by omega) lz
    (by rw [Int.toNat_natCast]; exact w1) rfl (by omega) (mask32 Y (by omega) hn1) (by rw [Int.toNat_natCast, show (64 - (s : Int)).toNat = 64 - s from by omega]; exact e4) (by rw [Int.toNat_natCast]; exact e5)
    rfl (mask32 v v0' v1')
    (by rw [ht _ _ u0 (by omega), IntKind.wrap_u64]; omega)
    (by simp only [IntKind.wrap_u64]; omega) n1 i1 hQ1 rfl rfl
    (by simp only [IntKind.wrap_u64]; omega)
    (by rw [ht _ _ hu2a (by omega), IntKind.wrap_u64]; omega)
    (by simp only [IntKind.wrap_u64]; omega) n2 i2 hQ2
    (by simp only [IntKind.wrap_u64]; omega) rfl
    (by simp only [IntKind.wrap_u64]; omega)
    hfin
  rw [td.1]
  exact main

/-- bits.Div64. -/
theorem div64_any (x y d : Int) (w : World) (x0 : 0 ≤ x) (x1 : x < d) (y0 : 0 ≤ y) (y1 : y < 18446744073709551616) (d1 : d < 18446744073709551616) :
    Calls Try.prog 85 #[.int .u64 x, .int .u64 y, .int .u64 d] w fun e w' =>
      e = .returned (.tuple #[.int .u64 ((x * 18446744073709551616 + y) / d), .int .u64 ((x * 18446744073709551616 + y) % d)]) ∧ Below w.heap.size w w' := by
  by_cases h : x = 0
  · subst h
    have c1 : ¬ d ≤ 0 := by omega
    have c2 : (d == 0) = false := by simp; omega
    have c4 : ¬ d = 0 := by omega
    have H := Lib.hid y1
    have H2 := Lib.hid d1
    have e1 : IntKind.u64.wrap (y.tdiv d) = y / d := by
      rw [IntKind.wrap_u64, Int.tdiv_eq_ediv_of_nonneg y0]
      have := Int.ediv_nonneg y0 (show 0 ≤ d by omega)
      have : y / d ≤ y := Int.ediv_le_self _ y0
      omega
    have e2 : IntKind.u64.wrap (y.tmod d) = y % d := by
      rw [IntKind.wrap_u64, Int.tmod_eq_emod_of_nonneg y0]
      have := Int.emod_nonneg y c4
      have := Int.emod_lt_of_pos y (show 0 < d by omega)
      omega
    have e3 : y.tmod d = y % d := Int.tmod_eq_emod_of_nonneg y0
    clear y1 d1
    rw [Int.zero_mul, Int.zero_add]
    go_enter Try.func85, Try.ntmps85
    go_wp2_with fail
    go_quiet (fail)
    go_wp2
    go_ret2
    exact ⟨rfl, by (repeat (first | with_reducible exact Below.refl _ _ | with_reducible apply Below.drew | (with_reducible refine below_drewN ?_ _) | (with_reducible refine Below.alloc ?_ (by (try simp) <;> omega) _) | (with_reducible refine Below.setCell ?_ (by (try simp) <;> omega) _)))⟩
  · exact (div64_hi x y d w (by omega) x1 y0 y1 d1).mono fun e w' ⟨h1, h2⟩ => ⟨h1, h2 ▸ Below.refl _ _⟩
end Go.Proofs.Ytgpnopiinogkmaa
/- Contracts of package wide (5): products and sums. -/
namespace Go.Proofs.Ytgpnopiinogkmaa
open Go.RowKit
set_option maxRecDepth 100000

theorem mul64_any (x y : Nat) (M : Int) (w : World) (hx : x < 18446744073709551616) (hy : y < 18446744073709551616) (hM : ((x * y : Nat) : Int) = M) :
    Calls Try.prog 56 #[.int .u64 x, .int .u64 y] w fun e w' => e = .returned (.tuple #[.int .u64 (hi64 M), .int .u64 (lo64 M)]) ∧ w = w' :=
  (bits_Mul64 x y hx hy w).mono fun e w' h => ⟨h.1.trans (by subst hM; rfl), h.2.symm⟩

theorem mul_walk (a b M : Int) (neg : Bool) (x y : Int) (w : World) (a1 : -9223372036854775808 ≤ a) (a2 : a < 9223372036854775808) (b1 : -9223372036854775808 ≤ b) (b2 : b < 9223372036854775808)
    (hs : (!decide (a < 0) == decide (b < 0)) = neg) (hM : ((a.natAbs * b.natAbs : Nat) : Int) = M)
    (hsg : ∀ w, Calls Try.prog 58 #[.agg #[.int .u64 (hi64 M), .int .u64 (lo64 M)], .bool neg] w fun e w' =>
      e = .returned (.tuple #[.agg #[.int .i64 x, .int .u64 y], .bool true]) ∧ Below w.heap.size w w') :
    Calls Try.prog 37 #[.int .i64 a, .int .i64 b] w fun e w' => e = .returned (.agg #[.int .i64 x, .int .u64 y]) ∧ Below w.heap.size w w' := by
  have HM := Lib.hid hM
  have A1 := Lib.hid a1
  have A2 := Lib.hid a2
  have B1 := Lib.hid b1
  have B2 := Lib.hid b2
  clear a1 a2 b1 b2 hM
  go_enter Try.func37, Try.ntmps37
  go_wp2_with fail
  refine (abs64_any _ _ A1.out A2.out).mono ?_; rintro e w' ⟨rfl, rfl⟩
  go_wp2_with fail
  refine (abs64_any _ _ B1.out B2.out).mono ?_; rintro e w' ⟨rfl, rfl⟩
  go_wp2_with fail
  refine (mul64_any _ _ M _ (by have := A1.out; have := A2.out; omega) (by have := B1.out; have := B2.out; omega) HM.out).mono ?_; rintro e w' ⟨rfl, rfl⟩
  go_wp2_with fail
  refine (hsg _).mono ?_; rintro e w1 ⟨rfl, hb1⟩
  obtain ⟨hc, hf⟩ := bcell hb1
  have hz : w.heap.size < w1.heap.size := by have := hb1.size; simp at this; omega
  go_wp2_with fail
  simp [bodyPost, results, Try.results37, go_sem, hc, hz]
  have hb2 : Below w.heap.size w w1 := Below.trans (by (repeat (first | with_reducible exact Below.refl _ _ | with_reducible apply Below.drew | (with_reducible refine below_drewN ?_ _) | (with_reducible refine Below.alloc ?_ (by (try simp) <;> omega) _) | (with_reducible refine Below.setCell ?_ (by (try simp) <;> omega) _)))) (hb1.mono (by simp))
  (repeat (first | exact hb2 | (refine Below.alloc ?_ (by (try simp) <;> omega) _) | (refine Below.setCell ?_ (by (try simp) <;> omega) _)))
/-- wide.Mul. -/
theorem mul_any (a b T : Int) (w : World) (a1 : -9223372036854775808 ≤ a) (a2 : a < 9223372036854775808) (b1 : -9223372036854775808 ≤ b) (b2 : b < 9223372036854775808)
    (hT : a * b = T) (t1 : -170141183460469231731687303715884105728 < T) (t2 : T < 170141183460469231731687303715884105728) :
    Calls Try.prog 37 #[.int .i64 a, .int .i64 b] w fun e w' => e = .returned (.agg #[.int .i64 (hi64 T), .int .u64 (lo64 T)]) ∧ Below w.heap.size w w' := by
  by_cases ha : a < 0 <;> by_cases hb : b < 0
  · have hM : ((a.natAbs * b.natAbs : Nat) : Int) = T := by
      rw [Int.natCast_mul, show (a.natAbs : Int) = -a from by omega, show (b.natAbs : Int) = -b from by omega, Int.neg_mul_neg, hT]
    have h0 : 0 ≤ T := by omega
    exact mul_walk a b T false _ _ w a1 a2 b1 b2 (by simp [ha, hb]) hM (fun w => signed_pos _ _ w (by unfold hi64; omega) (by unfold hi64; omega))
  · have hM : ((a.natAbs * b.natAbs : Nat) : Int) = -T := by
      rw [Int.natCast_mul, show (a.natAbs : Int) = -a from by omega, show (b.natAbs : Int) = b from by omega, Int.neg_mul, hT]
    have h0 : T ≤ 0 := by omega
    refine mul_walk a b (-T) true _ _ w a1 a2 b1 b2 (by simp [ha, hb]) hM (fun w => (signed_neg _ _ w (by unfold hi64; omega) (by unfold hi64; omega) (by unfold lo64; omega) (by unfold lo64; omega)).mono fun e w' h => ⟨h.1.trans ?_, h.2⟩)
    rw [show -(hi64 (-T) * B64 + lo64 (-T)) = T from by unfold hi64 lo64 B64; omega]
  · have hM : ((a.natAbs * b.natAbs : Nat) : Int) = -T := by
      rw [Int.natCast_mul, show (a.natAbs : Int) = a from by omega, show (b.natAbs : Int) = -b from by omega, Int.mul_neg, hT]
    have h0 : T ≤ 0 := by omega
    refine mul_walk a b (-T) true _ _ w a1 a2 b1 b2 (by simp [ha, hb]) hM (fun w => (signed_neg _ _ w (by unfold hi64; omega) (by unfold hi64; omega) (by unfold lo64; omega) (by unfold lo64; omega)).mono fun e w' h => ⟨h.1.trans ?_, h.2⟩)
    rw [show -(hi64 (-T) * B64 + lo64 (-T)) = T from by unfold hi64 lo64 B64; omega]
  · have hM : ((a.natAbs * b.natAbs : Nat) : Int) = T := by
      rw [Int.natCast_mul, show (a.natAbs : Int) = a from by omega, show (b.natAbs : Int) = b from by omega, hT]
    have h0 : 0 ≤ T := by omega
    exact mul_walk a b T false _ _ w a1 a2 b1 b2 (by simp [ha, hb]) hM (fun w => signed_pos _ _ w (by unfold hi64; omega) (by unfold hi64; omega))

/-- wide.add, the sum in range. -/
theorem add_walk (x y u v S : Int) (w : World) (x0 : -9223372036854775808 ≤ x) (x1 : x < 9223372036854775808) (u0 : -9223372036854775808 ≤ u) (u1 : u < 9223372036854775808)
    (y0 : 0 ≤ y) (y1 : y < 18446744073709551616) (v0 : 0 ≤ v) (v1 : v < 18446744073709551616)
    (hS : (x + u) * 18446744073709551616 + y + v = S) (s1 : -170141183460469231731687303715884105728 ≤ S) (s2 : S < 170141183460469231731687303715884105728) :
    Calls Try.prog 71 #[.agg #[.int .i64 x, .int .u64 y], .agg #[.int .i64 u, .int .u64 v]] w fun e w' =>
      e = .returned (.tuple #[.agg #[.int .i64 (hi64 S), .int .u64 (lo64 S)], .bool true]) ∧ Below w.heap.size w w' := by
  have a1 := fun w => add64_0 y v y0 v0 w
  have c1 : 0 ≤ hi64 (y + v) ∧ hi64 (y + v) ≤ 1 := by unfold hi64; omega
  have a2 := fun w => add64 (IntKind.u64.wrap x) (IntKind.u64.wrap u) (hi64 (y + v)) (by rw [IntKind.wrap_u64]; omega) (by rw [IntKind.wrap_u64]; omega) c1.1 c1.2 w
  have r1 : wrap64 (lo64 (IntKind.u64.wrap x + IntKind.u64.wrap u + hi64 (y + v))) = hi64 S := by
    simp only [IntKind.wrap_u64, wrap64]; unfold hi64 lo64; omega
  have r2 : lo64 (y + v) = lo64 S := by unfold lo64; omega
  have sg : (x < 0 ∧ u < 0 → hi64 S < 0) ∧ (0 ≤ x ∧ 0 ≤ u → 0 ≤ hi64 S) := by unfold hi64; omega
  obtain ⟨g1, g2⟩ := sg
  have G1 := Lib.hid g1
  have G2 := Lib.hid g2
  clear g1 g2 c1 x0 x1 u0 u1 y0 y1 v0 v1 hS s1 s2
  by_cases hx : x < 0 <;> by_cases hu : u < 0
  · have hs : hi64 S < 0 := G1.out ⟨hx, hu⟩
    have d1 : decide (x < 0) = true := by simpa using hx
    have d2 : decide (u < 0) = true := by simpa using hu
    have d3 : decide (hi64 S < 0) = true := by simpa using hs
    go_enter Try.func71, Try.ntmps71
    go_wp2_with fail
    go_region
    go_wp2
    simp [bodyPost, results, Try.results71, go_sem]
    (repeat (first | with_reducible exact Below.refl _ _ | with_reducible apply Below.drew | (with_reducible refine below_drewN ?_ _) | (with_reducible refine Below.alloc ?_ (by (try simp) <;> omega) _) | (with_reducible refine Below.setCell ?_ (by (try simp) <;> omega) _)))
  · have d1 : decide (x < 0) = true := by simpa using hx
    have d2 : decide (u < 0) = false := by simpa using hu
    go_enter Try.func71, Try.ntmps71
    go_wp2_with fail
    go_region
    go_wp2
    simp [bodyPost, results, Try.results71, go_sem]
    (repeat (first | with_reducible exact Below.refl _ _ | with_reducible apply Below.drew | (with_reducible refine below_drewN ?_ _) | (with_reducible refine Below.alloc ?_ (by (try simp) <;> omega) _) | (with_reducible refine Below.setCell ?_ (by (try simp) <;> omega) _)))
  · have d1 : decide (x < 0) = false := by simpa using hx
    have d2 : decide (u < 0) = true := by simpa using hu
    go_enter Try.func71, Try.ntmps71
    go_wp2_with fail
    go_region
    go_wp2
    simp [bodyPost, results, Try.results71, go_sem]
    (repeat (first | with_reducible exact Below.refl _ _ | with_reducible apply Below.drew | (with_reducible refine below_drewN ?_ _) | (with_reducible refine Below.alloc ?_ (by (try simp) <;> omega) _) | (with_reducible refine Below.setCell ?_ (by (try simp) <;> omega) _)))
  · have hs : 0 ≤ hi64 S := G2.out (by omega)
    have d1 : decide (x < 0) = false := by simpa using hx
    have d2 : decide (u < 0) = false := by simpa using hu
    have d3 : decide (hi64 S < 0) = false := by simpa using hs
    go_enter Try.func71, Try.ntmps71
    go_wp2_with fail
    go_region
    go_wp2
    simp [bodyPost, results, Try.results71, go_sem]
    (repeat (first | with_reducible exact Below.refl _ _ | with_reducible apply Below.drew | (with_reducible refine below_drewN ?_ _) | (with_reducible refine Below.alloc ?_ (by (try simp) <;> omega) _) | (with_reducible refine Below.setCell ?_ (by (try simp) <;> omega) _)))
/-- wide.add. -/
theorem add_any (A B S : Int) (w : World) (a1 : -170141183460469231731687303715884105728 ≤ A) (a2 : A < 170141183460469231731687303715884105728)
    (b1 : -170141183460469231731687303715884105728 ≤ B) (b2 : B < 170141183460469231731687303715884105728)
    (hS : A + B = S) (s1 : -170141183460469231731687303715884105728 ≤ S) (s2 : S < 170141183460469231731687303715884105728) :
    Calls Try.prog 71 #[.agg #[.int .i64 (hi64 A), .int .u64 (lo64 A)], .agg #[.int .i64 (hi64 B), .int .u64 (lo64 B)]] w fun e w' =>
      e = .returned (.tuple #[.agg #[.int .i64 (hi64 S), .int .u64 (lo64 S)], .bool true]) ∧ Below w.heap.size w w' :=
  add_walk _ _ _ _ S w (by unfold hi64; omega) (by unfold hi64; omega) (by unfold hi64; omega) (by unfold hi64; omega) (by unfold lo64; omega) (by unfold lo64; omega) (by unfold lo64; omega) (by unfold lo64; omega)
    (by unfold hi64 lo64; omega) s1 s2
end Go.Proofs.Ytgpnopiinogkmaa
