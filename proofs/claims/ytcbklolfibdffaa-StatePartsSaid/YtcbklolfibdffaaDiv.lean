/- Contract of math/bits.Div64. -/
import Derived.Test.YtcbklolfibdffaaWide3
import Derived.Test.YtcbklolfibdffaaShelf
import Derived.Test.YtcbklolfibdffaaKnuth
namespace Go.Proofs.Ytcbklolfibdffaa
open Go.RowKit
set_option maxRecDepth 100000
def Out (P : Prop) : Prop := P
set_option maxHeartbeats 1000000 in
theorem div64_big (x y d s Y a b u v v1 v0 q r u2 q2 r2 Q1 Q2 t1 t2 t3 t4 t5 R : Int) (w : World) (x0 : 0 < x) (x1 : x < d)
    (s0 : 0 ≤ s) (s1 : s < 64)
    (lz : ∀ w, Calls Try.prog 53 #[.int .u64 d] w fun e w' => e = .returned (.int .i64 s) ∧ w = w')
    (e1 : IntKind.u64.wrap (d * 2 ^ s.toNat) = Y) (e2 : Y / 4294967296 = a) (a0 : 0 < a) (e3 : bits .and .u64 Y 4294967295 = b)
    (e4 : bits .or .u64 (IntKind.u64.wrap (x * 2 ^ s.toNat)) (y / 2 ^ (64 - s).toNat) = u) (e5 : IntKind.u64.wrap (y * 2 ^ s.toNat) = v)
    (e6 : v / 4294967296 = v1) (e7 : bits .and .u64 v 4294967295 = v0) (e8 : IntKind.u64.wrap (u.tdiv a) = q) (e9 : IntKind.u64.wrap (u - IntKind.u64.wrap (q * a)) = r)
    (n1 : KNum u v1 Y a b) (i1 : KInv u v1 Y a b q r) (hQ1 : Hid ((u * 4294967296 + v1) / Y = Q1))
    (f1 : IntKind.u64.wrap (IntKind.u64.wrap (u * 4294967296) + v1) = t1) (f2 : IntKind.u64.wrap (Q1 * Y) = t2) (f3 : IntKind.u64.wrap (t1 - t2) = u2)
    (f4 : IntKind.u64.wrap (u2.tdiv a) = q2) (f5 : IntKind.u64.wrap (u2 - IntKind.u64.wrap (q2 * a)) = r2)
    (n2 : KNum u2 v0 Y a b) (i2 : KInv u2 v0 Y a b q2 r2) (hQ2 : Hid ((u2 * 4294967296 + v0) / Y = Q2))
    (g1 : IntKind.u64.wrap (IntKind.u64.wrap (Q1 * 4294967296) + Q2) = t3) (g2 : IntKind.u64.wrap (IntKind.u64.wrap (u2 * 4294967296) + v0) = t4)
    (g3 : IntKind.u64.wrap (t4 - IntKind.u64.wrap (Q2 * Y)) = t5) (g4 : t5 / 2 ^ s.toNat = R)
    :
    Calls Try.prog 51 #[.int .u64 x, .int .u64 y, .int .u64 d] w fun e w' => e = .returned (.tuple #[.int .u64 t3, .int .u64 R]) ∧ w = w' := by
  have c1 : ¬ d ≤ x := by omega
  have c2 : (d == 0) = false := by simp; omega
  have c3 : (x == 0) = false := by simp; omega
  have N1 := Lib.hid n1
  have N2 := Lib.hid n2
  have I1 := Lib.hid i1
  have I2 := Lib.hid i2
  clear n1 n2 i1 i2
  go_enter Try.func51, Try.ntmps51
  go_wp2_with (go_at_call 53; refine (lz _).mono ?_; rintro e w' ⟨rfl, rfl⟩)
  go_loop [15, 16] (fun A B => ∃ q r : Int, A = .int .u64 q ∧ B = .int .u64 r ∧ Hid (KInv u v1 Y a b q r)) (fun A _ => (intOf A).toNat)
  case atStart => exact ⟨_, _, rfl, rfl, I1⟩
  case round =>
    obtain ⟨q, r, rfl, rfl, I⟩ := hrel
    by_cases h1 : 4294967296 ≤ q
    · have H := Lib.hid (Or.inl h1 : 4294967296 ≤ q ∨ 4294967296 * r + v1 < q * b)
      have hl := I.out.less N1.out H.out
      have hqb := I.out.q1
      have hr0 := I.out.r0
      have hr1 := I.out.r1
      have ha1 := N1.out.a1
      by_cases hr : r + a < 4294967296
      · have nx := Lib.hid (I.out.next N1.out H.out hr)
        obtain ⟨q', hq'⟩ : ∃ q' : Int, q - 1 = q' := ⟨_, rfl⟩
        obtain ⟨r', hr'⟩ : ∃ r' : Int, r + a = r' := ⟨_, rfl⟩
        rw [hq', hr'] at nx
        have w1 : IntKind.u64.wrap (q - 1) = q' := by rw [IntKind.wrap_u64]; omega
        have w2 : IntKind.u64.wrap (r + a) = r' := by rw [IntKind.wrap_u64]; omega
        have w3 : ¬ 4294967296 ≤ r' := by omega
        have hm : q'.toNat < q.toNat := by omega
        have M := Lib.hid hm
        clear hl hqb hr0 hr1 ha1 hr hq' hr' hm
        go_wp2
        go_round
        case rel => exact ⟨q', r', rfl, rfl, nx⟩
        case measure => (have hm := M.out; simp [intOf]; omega)
      · have bk := (I.out.broke N1.out H.out (by omega)).trans hQ1.out
        obtain ⟨r', hr'⟩ : ∃ r' : Int, r + a = r' := ⟨_, rfl⟩
        have w1 : IntKind.u64.wrap (q - 1) = Q1 := by rw [IntKind.wrap_u64]; omega
        have w2 : IntKind.u64.wrap (r + a) = r' := by rw [IntKind.wrap_u64]; omega
        have w3 : 4294967296 ≤ r' := by omega
        clear hl hqb hr0 hr1 ha1 hr hr' bk
        go_wp2
        go_loop [18, 16] (fun A B => ∃ q r : Int, A = .int .u64 q ∧ B = .int .u64 r ∧ Hid (KInv u2 v0 Y a b q r)) (fun A _ => (intOf A).toNat)
        case atStart => exact ⟨_, _, rfl, rfl, I2⟩
        case round =>
          obtain ⟨q, r, rfl, rfl, I⟩ := hrel
          by_cases h1 : 4294967296 ≤ q
          · have H := Lib.hid (Or.inl h1 : 4294967296 ≤ q ∨ 4294967296 * r + v0 < q * b)
            have hl := I.out.less N2.out H.out
            have hqb := I.out.q1
            have hr0 := I.out.r0
            have hr1 := I.out.r1
            have ha1 := N2.out.a1
            by_cases hr : r + a < 4294967296
            · have nx := Lib.hid (I.out.next N2.out H.out hr)
              obtain ⟨q', hq'⟩ : ∃ q' : Int, q - 1 = q' := ⟨_, rfl⟩
              obtain ⟨r', hr'⟩ : ∃ r' : Int, r + a = r' := ⟨_, rfl⟩
              rw [hq', hr'] at nx
              have w1 : IntKind.u64.wrap (q - 1) = q' := by rw [IntKind.wrap_u64]; omega
              have w2 : IntKind.u64.wrap (r + a) = r' := by rw [IntKind.wrap_u64]; omega
              have w3 : ¬ 4294967296 ≤ r' := by omega
              have hm : q'.toNat < q.toNat := by omega
              have M := Lib.hid hm
              clear hl hqb hr0 hr1 ha1 hr hq' hr' hm
              go_wp2
              go_round
              case rel => exact ⟨q', r', rfl, rfl, nx⟩
              case measure => (have hm := M.out; simp [intOf]; omega)
            · have bk := (I.out.broke N2.out H.out (by omega)).trans hQ2.out
              obtain ⟨r', hr'⟩ : ∃ r' : Int, r + a = r' := ⟨_, rfl⟩
              have w1 : IntKind.u64.wrap (q - 1) = Q2 := by rw [IntKind.wrap_u64]; omega
              have w2 : IntKind.u64.wrap (r + a) = r' := by rw [IntKind.wrap_u64]; omega
              have w3 : 4294967296 ≤ r' := by omega
              clear hl hqb hr0 hr1 ha1 hr hr' bk
              go_wp2
              go_ret2
              exact ⟨rfl, rfl⟩
          · obtain ⟨k0, k1⟩ := I.out.qb N2.out h1
            have k2 := I.out.r0
            have k3 := I.out.r1
            have k4 := N2.out.v0
            have k5 := N2.out.v1
            obtain ⟨x1, hx1⟩ : ∃ x1 : Int, q * b = x1 := ⟨_, rfl⟩
            obtain ⟨x2, hx2⟩ : ∃ x2 : Int, 4294967296 * r + v0 = x2 := ⟨_, rfl⟩
            have w5 : IntKind.u64.wrap (q * b) = x1 := by rw [IntKind.wrap_u64]; omega
            have w6 : IntKind.u64.wrap (IntKind.u64.wrap (4294967296 * r) + v0) = x2 := by simp only [IntKind.wrap_u64]; omega
            by_cases h2 : x2 < x1
            · have H := Lib.hid (Or.inr (by omega) : 4294967296 ≤ q ∨ 4294967296 * r + v0 < q * b)
              clear k0 k1 k2 k3 k4 k5 hx1 hx2
              have hl := I.out.less N2.out H.out
              have hqb := I.out.q1
              have hr0 := I.out.r0
              have hr1 := I.out.r1
              have ha1 := N2.out.a1
              by_cases hr : r + a < 4294967296
              · have nx := Lib.hid (I.out.next N2.out H.out hr)
                obtain ⟨q', hq'⟩ : ∃ q' : Int, q - 1 = q' := ⟨_, rfl⟩
                obtain ⟨r', hr'⟩ : ∃ r' : Int, r + a = r' := ⟨_, rfl⟩
                rw [hq', hr'] at nx
                have w1 : IntKind.u64.wrap (q - 1) = q' := by rw [IntKind.wrap_u64]; omega
                have w2 : IntKind.u64.wrap (r + a) = r' := by rw [IntKind.wrap_u64]; omega
                have w3 : ¬ 4294967296 ≤ r' := by omega
                have hm : q'.toNat < q.toNat := by omega
                have M := Lib.hid hm
                clear hl hqb hr0 hr1 ha1 hr hq' hr' hm
                go_wp2
                go_round
                case rel => exact ⟨q', r', rfl, rfl, nx⟩
                case measure => (have hm := M.out; simp [intOf]; omega)
              · have bk := (I.out.broke N2.out H.out (by omega)).trans hQ2.out
                obtain ⟨r', hr'⟩ : ∃ r' : Int, r + a = r' := ⟨_, rfl⟩
                have w1 : IntKind.u64.wrap (q - 1) = Q2 := by rw [IntKind.wrap_u64]; omega
                have w2 : IntKind.u64.wrap (r + a) = r' := by rw [IntKind.wrap_u64]; omega
                have w3 : 4294967296 ≤ r' := by omega
                clear hl hqb hr0 hr1 ha1 hr hr' bk
                go_wp2
                go_ret2
                exact ⟨rfl, rfl⟩
            · have dn := (I.out.done N2.out (by omega)).trans hQ2.out
              subst dn
              clear k0 k1 k2 k3 k4 k5 hx1 hx2
              go_wp2
              go_ret2
              exact ⟨rfl, rfl⟩
    · obtain ⟨k0, k1⟩ := I.out.qb N1.out h1
      have k2 := I.out.r0
      have k3 := I.out.r1
      have k4 := N1.out.v0
      have k5 := N1.out.v1
      obtain ⟨x1, hx1⟩ : ∃ x1 : Int, q * b = x1 := ⟨_, rfl⟩
      obtain ⟨x2, hx2⟩ : ∃ x2 : Int, 4294967296 * r + v1 = x2 := ⟨_, rfl⟩
      have w5 : IntKind.u64.wrap (q * b) = x1 := by rw [IntKind.wrap_u64]; omega
      have w6 : IntKind.u64.wrap (IntKind.u64.wrap (4294967296 * r) + v1) = x2 := by simp only [IntKind.wrap_u64]; omega
      by_cases h2 : x2 < x1
      · have H := Lib.hid (Or.inr (by omega) : 4294967296 ≤ q ∨ 4294967296 * r + v1 < q * b)
        clear k0 k1 k2 k3 k4 k5 hx1 hx2
        have hl := I.out.less N1.out H.out
        have hqb := I.out.q1
        have hr0 := I.out.r0
        have hr1 := I.out.r1
        have ha1 := N1.out.a1
        by_cases hr : r + a < 4294967296
        · have nx := Lib.hid (I.out.next N1.out H.out hr)
          obtain ⟨q', hq'⟩ : ∃ q' : Int, q - 1 = q' := ⟨_, rfl⟩
          obtain ⟨r', hr'⟩ : ∃ r' : Int, r + a = r' := ⟨_, rfl⟩
          rw [hq', hr'] at nx
          have w1 : IntKind.u64.wrap (q - 1) = q' := by rw [IntKind.wrap_u64]; omega
          have w2 : IntKind.u64.wrap (r + a) = r' := by rw [IntKind.wrap_u64]; omega
          have w3 : ¬ 4294967296 ≤ r' := by omega
          have hm : q'.toNat < q.toNat := by omega
          have M := Lib.hid hm
          clear hl hqb hr0 hr1 ha1 hr hq' hr' hm
          go_wp2
          go_round
          case rel => exact ⟨q', r', rfl, rfl, nx⟩
          case measure => (have hm := M.out; simp [intOf]; omega)
        · have bk := (I.out.broke N1.out H.out (by omega)).trans hQ1.out
          obtain ⟨r', hr'⟩ : ∃ r' : Int, r + a = r' := ⟨_, rfl⟩
          have w1 : IntKind.u64.wrap (q - 1) = Q1 := by rw [IntKind.wrap_u64]; omega
          have w2 : IntKind.u64.wrap (r + a) = r' := by rw [IntKind.wrap_u64]; omega
          have w3 : 4294967296 ≤ r' := by omega
          clear hl hqb hr0 hr1 ha1 hr hr' bk
          go_wp2
          go_loop [18, 16] (fun A B => ∃ q r : Int, A = .int .u64 q ∧ B = .int .u64 r ∧ Hid (KInv u2 v0 Y a b q r)) (fun A _ => (intOf A).toNat)
          case atStart => exact ⟨_, _, rfl, rfl, I2⟩
          case round =>
            obtain ⟨q, r, rfl, rfl, I⟩ := hrel
            by_cases h1 : 4294967296 ≤ q
            · have H := Lib.hid (Or.inl h1 : 4294967296 ≤ q ∨ 4294967296 * r + v0 < q * b)
              have hl := I.out.less N2.out H.out
              have hqb := I.out.q1
              have hr0 := I.out.r0
              have hr1 := I.out.r1
              have ha1 := N2.out.a1
              by_cases hr : r + a < 4294967296
              · have nx := Lib.hid (I.out.next N2.out H.out hr)
                obtain ⟨q', hq'⟩ : ∃ q' : Int, q - 1 = q' := ⟨_, rfl⟩
                obtain ⟨r', hr'⟩ : ∃ r' : Int, r + a = r' := ⟨_, rfl⟩
                rw [hq', hr'] at nx
                have w1 : IntKind.u64.wrap (q - 1) = q' := by rw [IntKind.wrap_u64]; omega
                have w2 : IntKind.u64.wrap (r + a) = r' := by rw [IntKind.wrap_u64]; omega
                have w3 : ¬ 4294967296 ≤ r' := by omega
                have hm : q'.toNat < q.toNat := by omega
                have M := Lib.hid hm
                clear hl hqb hr0 hr1 ha1 hr hq' hr' hm
                go_wp2
                go_round
                case rel => exact ⟨q', r', rfl, rfl, nx⟩
                case measure => (have hm := M.out; simp [intOf]; omega)
              · have bk := (I.out.broke N2.out H.out (by omega)).trans hQ2.out
                obtain ⟨r', hr'⟩ : ∃ r' : Int, r + a = r' := ⟨_, rfl⟩
                have w1 : IntKind.u64.wrap (q - 1) = Q2 := by rw [IntKind.wrap_u64]; omega
                have w2 : IntKind.u64.wrap (r + a) = r' := by rw [IntKind.wrap_u64]; omega
                have w3 : 4294967296 ≤ r' := by omega
                clear hl hqb hr0 hr1 ha1 hr hr' bk
                go_wp2
                go_ret2
                exact ⟨rfl, rfl⟩
            · obtain ⟨k0, k1⟩ := I.out.qb N2.out h1
              have k2 := I.out.r0
              have k3 := I.out.r1
              have k4 := N2.out.v0
              have k5 := N2.out.v1
              obtain ⟨x1, hx1⟩ : ∃ x1 : Int, q * b = x1 := ⟨_, rfl⟩
              obtain ⟨x2, hx2⟩ : ∃ x2 : Int, 4294967296 * r + v0 = x2 := ⟨_, rfl⟩
              have w5 : IntKind.u64.wrap (q * b) = x1 := by rw [IntKind.wrap_u64]; omega
              have w6 : IntKind.u64.wrap (IntKind.u64.wrap (4294967296 * r) + v0) = x2 := by simp only [IntKind.wrap_u64]; omega
              by_cases h2 : x2 < x1
              · have H := Lib.hid (Or.inr (by omega) : 4294967296 ≤ q ∨ 4294967296 * r + v0 < q * b)
                clear k0 k1 k2 k3 k4 k5 hx1 hx2
                have hl := I.out.less N2.out H.out
                have hqb := I.out.q1
                have hr0 := I.out.r0
                have hr1 := I.out.r1
                have ha1 := N2.out.a1
                by_cases hr : r + a < 4294967296
                · have nx := Lib.hid (I.out.next N2.out H.out hr)
                  obtain ⟨q', hq'⟩ : ∃ q' : Int, q - 1 = q' := ⟨_, rfl⟩
                  obtain ⟨r', hr'⟩ : ∃ r' : Int, r + a = r' := ⟨_, rfl⟩
                  rw [hq', hr'] at nx
                  have w1 : IntKind.u64.wrap (q - 1) = q' := by rw [IntKind.wrap_u64]; omega
                  have w2 : IntKind.u64.wrap (r + a) = r' := by rw [IntKind.wrap_u64]; omega
                  have w3 : ¬ 4294967296 ≤ r' := by omega
                  have hm : q'.toNat < q.toNat := by omega
                  have M := Lib.hid hm
                  clear hl hqb hr0 hr1 ha1 hr hq' hr' hm
                  go_wp2
                  go_round
                  case rel => exact ⟨q', r', rfl, rfl, nx⟩
                  case measure => (have hm := M.out; simp [intOf]; omega)
                · have bk := (I.out.broke N2.out H.out (by omega)).trans hQ2.out
                  obtain ⟨r', hr'⟩ : ∃ r' : Int, r + a = r' := ⟨_, rfl⟩
                  have w1 : IntKind.u64.wrap (q - 1) = Q2 := by rw [IntKind.wrap_u64]; omega
                  have w2 : IntKind.u64.wrap (r + a) = r' := by rw [IntKind.wrap_u64]; omega
                  have w3 : 4294967296 ≤ r' := by omega
                  clear hl hqb hr0 hr1 ha1 hr hr' bk
                  go_wp2
                  go_ret2
                  exact ⟨rfl, rfl⟩
              · have dn := (I.out.done N2.out (by omega)).trans hQ2.out
                subst dn
                clear k0 k1 k2 k3 k4 k5 hx1 hx2
                go_wp2
                go_ret2
                exact ⟨rfl, rfl⟩
      · have dn := (I.out.done N1.out (by omega)).trans hQ1.out
        subst dn
        clear k0 k1 k2 k3 k4 k5 hx1 hx2
        go_wp2
        go_loop [18, 16] (fun A B => ∃ q r : Int, A = .int .u64 q ∧ B = .int .u64 r ∧ Hid (KInv u2 v0 Y a b q r)) (fun A _ => (intOf A).toNat)
        case atStart => exact ⟨_, _, rfl, rfl, I2⟩
        case round =>
          obtain ⟨q, r, rfl, rfl, I⟩ := hrel
          by_cases h1 : 4294967296 ≤ q
          · have H := Lib.hid (Or.inl h1 : 4294967296 ≤ q ∨ 4294967296 * r + v0 < q * b)
            have hl := I.out.less N2.out H.out
            have hqb := I.out.q1
            have hr0 := I.out.r0
            have hr1 := I.out.r1
            have ha1 := N2.out.a1
            by_cases hr : r + a < 4294967296
            · have nx := Lib.hid (I.out.next N2.out H.out hr)
              obtain ⟨q', hq'⟩ : ∃ q' : Int, q - 1 = q' := ⟨_, rfl⟩
              obtain ⟨r', hr'⟩ : ∃ r' : Int, r + a = r' := ⟨_, rfl⟩
              rw [hq', hr'] at nx
              have w1 : IntKind.u64.wrap (q - 1) = q' := by rw [IntKind.wrap_u64]; omega
              have w2 : IntKind.u64.wrap (r + a) = r' := by rw [IntKind.wrap_u64]; omega
              have w3 : ¬ 4294967296 ≤ r' := by omega
              have hm : q'.toNat < q.toNat := by omega
              have M := Lib.hid hm
              clear hl hqb hr0 hr1 ha1 hr hq' hr' hm
              go_wp2
              go_round
              case rel => exact ⟨q', r', rfl, rfl, nx⟩
              case measure => (have hm := M.out; simp [intOf]; omega)
            · have bk := (I.out.broke N2.out H.out (by omega)).trans hQ2.out
              obtain ⟨r', hr'⟩ : ∃ r' : Int, r + a = r' := ⟨_, rfl⟩
              have w1 : IntKind.u64.wrap (q - 1) = Q2 := by rw [IntKind.wrap_u64]; omega
              have w2 : IntKind.u64.wrap (r + a) = r' := by rw [IntKind.wrap_u64]; omega
              have w3 : 4294967296 ≤ r' := by omega
              clear hl hqb hr0 hr1 ha1 hr hr' bk
              go_wp2
              go_ret2
              exact ⟨rfl, rfl⟩
          · obtain ⟨k0, k1⟩ := I.out.qb N2.out h1
            have k2 := I.out.r0
            have k3 := I.out.r1
            have k4 := N2.out.v0
            have k5 := N2.out.v1
            obtain ⟨x1, hx1⟩ : ∃ x1 : Int, q * b = x1 := ⟨_, rfl⟩
            obtain ⟨x2, hx2⟩ : ∃ x2 : Int, 4294967296 * r + v0 = x2 := ⟨_, rfl⟩
            have w5 : IntKind.u64.wrap (q * b) = x1 := by rw [IntKind.wrap_u64]; omega
            have w6 : IntKind.u64.wrap (IntKind.u64.wrap (4294967296 * r) + v0) = x2 := by simp only [IntKind.wrap_u64]; omega
            by_cases h2 : x2 < x1
            · have H := Lib.hid (Or.inr (by omega) : 4294967296 ≤ q ∨ 4294967296 * r + v0 < q * b)
              clear k0 k1 k2 k3 k4 k5 hx1 hx2
              have hl := I.out.less N2.out H.out
              have hqb := I.out.q1
              have hr0 := I.out.r0
              have hr1 := I.out.r1
              have ha1 := N2.out.a1
              by_cases hr : r + a < 4294967296
              · have nx := Lib.hid (I.out.next N2.out H.out hr)
                obtain ⟨q', hq'⟩ : ∃ q' : Int, q - 1 = q' := ⟨_, rfl⟩
                obtain ⟨r', hr'⟩ : ∃ r' : Int, r + a = r' := ⟨_, rfl⟩
                rw [hq', hr'] at nx
                have w1 : IntKind.u64.wrap (q - 1) = q' := by rw [IntKind.wrap_u64]; omega
                have w2 : IntKind.u64.wrap (r + a) = r' := by rw [IntKind.wrap_u64]; omega
                have w3 : ¬ 4294967296 ≤ r' := by omega
                have hm : q'.toNat < q.toNat := by omega
                have M := Lib.hid hm
                clear hl hqb hr0 hr1 ha1 hr hq' hr' hm
                go_wp2
                go_round
                case rel => exact ⟨q', r', rfl, rfl, nx⟩
                case measure => (have hm := M.out; simp [intOf]; omega)
              · have bk := (I.out.broke N2.out H.out (by omega)).trans hQ2.out
                obtain ⟨r', hr'⟩ : ∃ r' : Int, r + a = r' := ⟨_, rfl⟩
                have w1 : IntKind.u64.wrap (q - 1) = Q2 := by rw [IntKind.wrap_u64]; omega
                have w2 : IntKind.u64.wrap (r + a) = r' := by rw [IntKind.wrap_u64]; omega
                have w3 : 4294967296 ≤ r' := by omega
                clear hl hqb hr0 hr1 ha1 hr hr' bk
                go_wp2
                go_ret2
                exact ⟨rfl, rfl⟩
            · have dn := (I.out.done N2.out (by omega)).trans hQ2.out
              subst dn
              clear k0 k1 k2 k3 k4 k5 hx1 hx2
              go_wp2
              go_ret2
              exact ⟨rfl, rfl⟩
end Go.Proofs.Ytcbklolfibdffaa
