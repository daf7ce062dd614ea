/- Contracts of the program's functions and plain laws, part 18: they hold for all arguments. -/
import Derived.Test.YtpbgglkopfjagaaQ17
import Derived.Test.YtpbgglkopfjagaaQ16
/- Contract of the reference's Likely: by its digits. -/
namespace Go.Proofs.Ytpbgglkopfjagaa
open Go.RowKit
open Go (bits)
set_option maxRecDepth 100000
def N3 (x0 x1 x2 : Nat) : Nat → Nat := fun i => if i = 0 then x0 else if i = 1 then x1 else x2
theorem N3_lt {x0 x1 x2 : Nat} (h0 : x0 ≤ 4611686018427387904) (h1 : x1 ≤ 2305843009213693952) (h2 : x2 ≤ 288230376151711744) (i : Nat) : N3 x0 x1 x2 i < 9223372036854775808 := by
  unfold N3
  split
  · omega
  · split <;> omega
theorem slc3 (w : World) (T : Nat) (x0 x1 x2 : Nat) : Slc (w.alloc (.cells #[.int .i64 (x0 : Int), .int .i64 (x1 : Int), .int .i64 (x2 : Int)] T)) (some ⟨w.heap.size, 0, none⟩) 3 (fun i => ((N3 x0 x1 x2 i : Nat) : Int)) := by
  intro i hi
  obtain rfl | rfl | rfl : i = 0 ∨ i = 1 ∨ i = 2 := by omega
  all_goals exact ⟨_, _, rfl, by simp [go_sem, N3]⟩
theorem slc30 (w : World) (T : Nat) (x0 x1 : Nat) : Slc (w.alloc (.cells #[.int .i64 (x0 : Int), .int .i64 (x1 : Int), .int .i64 0] T)) (some ⟨w.heap.size, 0, none⟩) 3 (fun i => ((N3 x0 x1 0 i : Nat) : Int)) := slc3 w T x0 x1 0
def N5 (x0 x1 x2 x3 x4 : Nat) : Nat → Nat := fun i => if i = 0 then x0 else if i = 1 then x1 else if i = 2 then x2 else if i = 3 then x3 else x4
theorem slc5 (w : World) (T : Nat) (x0 x1 x2 x3 x4 : Nat) : Slc (w.alloc (.cells #[.int .i64 (x0 : Int), .int .i64 (x1 : Int), .int .i64 (x2 : Int), .int .i64 (x3 : Int), .int .i64 (x4 : Int)] T)) (some ⟨w.heap.size, 0, none⟩) 5 (fun i => ((N5 x0 x1 x2 x3 x4 i : Nat) : Int)) := by
  intro i hi
  obtain rfl | rfl | rfl | rfl | rfl : i = 0 ∨ i = 1 ∨ i = 2 ∨ i = 3 ∨ i = 4 := by omega
  all_goals exact ⟨_, _, rfl, by simp [go_sem, N5]⟩
theorem dgP_3 (x0 x1 x2 : Nat) : dgP (N3 x0 x1 x2) 3 3 = x0 + x1 * 2147483648 + x2 * 4611686018427387904 := by
  simp [dgP, dgL, N3]
theorem dgP_5 (x0 x1 x2 x3 x4 : Nat) : dgP (N5 x0 x1 x2 x3 x4) 5 5 = x0 + x1 * 2147483648 + x2 * 4611686018427387904 + x3 * 9903520314283042199192993792 + x4 * 21267647932558653966460912964485513216 := by
  simp [dgP, dgL, N5]
/-- Digits in a block, from its head on. -/
def DgB (w : World) (g n V : Nat) : Prop := ∀ i, i < n → w.cell? ⟨g, 0 + i, none⟩ = some (.int .i64 ((digF V i : Nat) : Int))
theorem DgB.below {w w' : World} {g n V : Nat} (h : DgB w g n V) (b : Below w.heap.size w w') : DgB w' g n V := fun i hi => (b.cell (World.block_lt_of_cell? _ _ (h i hi))).trans (h i hi)
set_option maxHeartbeats 16000000 in
theorem rlikely16_any (y s g : Int) (w : World) (g0 : -9223372036854775808 ≤ g) (g1 : g ≤ 9223372036854775807) :
    Calls Try.prog 15 #[.int .i64 y, .int .i64 s, .int .i64 g] w fun e w' => e = .returned (.bool (likB y s g)) ∧ Below w.heap.size w w' := by
  have AC : ∀ f : Bool, (w.alloc (.cells #[.bool f] 76)).cell? ⟨w.heap.size, 0, none⟩ = some (.bool f) ∧ (w.alloc (.cells #[.bool f] 76)).frozen? ⟨w.heap.size, 0, none⟩ = false := fun f => ⟨by simp [go_sem], by simp [go_sem]⟩
  have SY := Lib.hid (rsat_any ⟨w.heap.size, 0, none⟩ false y _ (AC false).1 (AC false).2)
  have SS := Lib.hid (rsat_any ⟨w.heap.size, 0, none⟩ (satH y) s _ (AC (satH y)).1 (AC (satH y)).2)
  have B2 : Hid (Below w.heap.size w (w.alloc (.cells #[.bool (satH y || satH s)] 76))) := Lib.hid (by (repeat (first | with_reducible exact Below.refl _ _ | with_reducible apply Below.drew | (with_reducible refine below_drewN ?_ _) | (with_reducible refine Below.alloc ?_ (by (try simp) <;> omega) _) | (with_reducible refine Below.setCell ?_ (by (try simp) <;> omega) _))))
  clear AC
  have by' := satV_bd y
  have bs' := satV_bd s
  have EL := Lib.hid (show likB y s g = (decide (1 ≤ g) && decide (g ≤ 1000) && decide (1 ≤ satV s) && decide (satV y * satV y ≤ g * g * 65536 * satV s)) from rfl)
  obtain ⟨Y, hY⟩ : ∃ x, satV y = x := ⟨_, rfl⟩
  obtain ⟨S, hS⟩ : ∃ x, satV s = x := ⟨_, rfl⟩
  rw [hY] at by' EL SY
  rw [hS] at bs' EL SS
  clear hY hS
  go_enter Try.func15, Try.ntmps15
  go_upto_region 4 with (first | (go_at_call 33; (refine SY.out.mono ?_); rintro e w1 ⟨rfl, rfl⟩) | (go_at_call 33; (refine SS.out.mono ?_); rintro e w2 ⟨rfl, rfl⟩))
  generalize w.alloc (.cells #[.bool (satH y || satH s)] 76) = W2 at *
  clear SY SS
  by_cases h1 : g < 1
  · have e1 : decide (g < 1) = true := by simpa using h1
    have NO := Lib.hid (show likB y s g = false by rw [EL.out, show decide (1 ≤ g) = false by simp; omega]; simp)
    clear h1
    go_wp2_with fail
    go_ret
    exact ⟨by rw [NO.out]; rfl, B2.out⟩
  · have e1 : decide (g < 1) = false := by simpa using h1
    by_cases h2 : 1000 < g
    · have e2 : decide (1000 < g) = true := by simpa using h2
      have NO := Lib.hid (show likB y s g = false by rw [EL.out, show decide (g ≤ 1000) = false by simp; omega]; simp)
      clear h1 h2
      go_wp2_with fail
      go_ret
      exact ⟨by rw [NO.out]; rfl, B2.out⟩
    · have e2 : decide (1000 < g) = false := by simpa using h2
      by_cases h3 : S < 1
      · have e3 : decide (S < 1) = true := by simpa using h3
        have NO := Lib.hid (show likB y s g = false by rw [EL.out, show decide (1 ≤ S) = false by simp; omega]; simp)
        clear h1 h2 h3
        go_wp2_with fail
        go_ret
        exact ⟨by rw [NO.out]; rfl, B2.out⟩
      · have e3 : decide (S < 1) = false := by simpa using h3
        obtain ⟨G, rfl⟩ : ∃ G : Nat, g = (G : Int) := ⟨g.toNat, by omega⟩
        obtain ⟨B, rfl⟩ : ∃ B : Nat, S = (B : Int) := ⟨S.toNat, by omega⟩
        obtain ⟨A, hA⟩ : ∃ A, Y.natAbs = A := ⟨_, rfl⟩
        have hAb : A ≤ 1152921504606846976 := by omega
        have hBb : B ≤ 1152921504606846976 := by omega
        have hGb : G ≤ 1000 := by omega
        have EM : Hid (likB y s (G : Int) = decide (A * A ≤ G * G * 65536 * B)) := by
          refine Lib.hid ?_
          rw [EL.out, show decide (1 ≤ (G : Int)) = true by simp; omega, show decide ((G : Int) ≤ 1000) = true by simp; omega, show decide (1 ≤ (B : Int)) = true by simp; omega]
          simp only [Bool.true_and]
          rw [decide_eq_decide]
          have q1 : Y * Y = ((A * A : Nat) : Int) := by rw [← hA]; exact Int.natAbs_mul_self.symm
          rw [q1, show ((G : Int) * (G : Int) * 65536 * (B : Int)) = ((G * G * 65536 * B : Nat) : Int) by simp [Int.natCast_mul]]
          exact Int.ofNat_le
        have hYc : (decide (Y < 0) = true ∧ IntKind.i64.wrap (-Y) = (A : Int)) ∨ (decide (Y < 0) = false ∧ Y = (A : Int)) := by
          by_cases h : Y < 0
          · exact .inl ⟨by simpa using h, by rw [show -Y = (A : Int) by omega]; exact IntWalk.i64_in _ (by omega)⟩
          · exact .inr ⟨by simpa using h, by omega⟩
        clear EL h1 h2 h3 hA by' bs' g0 g1
        go_upto_region 6 with fail
        rcases hYc with ⟨e4, hw⟩ | ⟨e4, rfl⟩
        all_goals
          go_upto_region 8 with fail
          (try rw [hw])
          obtain ⟨KK, hKK⟩ : ∃ KK, G * G = KK := ⟨_, rfl⟩
          have hKb : KK ≤ 1000000 := by rw [← hKK]; exact Nat.mul_le_mul hGb hGb
          have kk : IntKind.i64.wrap ((G : Int) * (G : Int)) = (KK : Int) := by rw [← Int.natCast_mul, hKK]; exact IntWalk.i64_in _ (by omega)
          rw [hKK] at EM
          clear hKK hGb
          refine wp_region_lit ?_
          refine wpList_val (v := ?_) rfl ?_ ?_
          rotate_left
          · (go_simp; (try (first | with_reducible rfl | (constructor <;> with_reducible rfl))))
          (try simp only [Act.put, nA, nB, nC])
          refine wpList_val (v := ?_) rfl ?_ ?_
          rotate_left
          · (go_simp; (try (first | with_reducible rfl | (constructor <;> with_reducible rfl))))
          (try simp only [Act.put, nA, nB, nC])
          refine wpList_val (v := ?_) rfl ?_ ?_
          rotate_left
          · (go_simp; (try rw [kk]); (try with_reducible rfl))
          (try simp only [Act.put, nA, nB, nC])
          refine wpList_val (v := ?_) rfl ?_ ?_
          rotate_left
          · (go_simp; (try (first | with_reducible rfl | (constructor <;> with_reducible rfl))))
          (try simp only [Act.put, nA, nB, nC])
          refine wpList_nil ?_
          clear kk
          have f1 := and31 A (by omega)
          obtain ⟨a0, ha0⟩ : ∃ x, A % 2147483648 = x := ⟨_, rfl⟩
          obtain ⟨a1, ha1⟩ : ∃ x, A / 2147483648 = x := ⟨_, rfl⟩
          rw [ha0] at f1
          have i1 : (A : Int) / 2147483648 = (a1 : Int) := by omega
          have ba0 : a0 < 2147483648 := by omega
          have ba1 : a1 ≤ 536870912 := by omega
          have HAe := Lib.hid (show A = a1 * 2147483648 + a0 by omega)
          clear ha0 ha1
          go_upto_region 10 with fail
          (try rw [f1]); (try rw [i1])
          clear f1 i1
          obtain ⟨x0, hx0⟩ : ∃ x, a0 * a0 = x := ⟨_, rfl⟩
          obtain ⟨z, hz⟩ : ∃ x, 2 * a0 = x := ⟨_, rfl⟩
          obtain ⟨x1, hx1⟩ : ∃ x, z * a1 = x := ⟨_, rfl⟩
          obtain ⟨x2, hx2⟩ : ∃ x, a1 * a1 = x := ⟨_, rfl⟩
          have c0 : x0 ≤ 4611686018427387904 := by rw [← hx0]; exact Nat.le_trans (Nat.mul_le_mul (show a0 ≤ 2147483648 by omega) (show a0 ≤ 2147483648 by omega)) (by decide)
          have c1 : x1 ≤ 2305843009213693952 := by rw [← hx1]; exact Nat.le_trans (Nat.mul_le_mul (show z ≤ 4294967296 by omega) ba1) (by decide)
          have c2 : x2 ≤ 288230376151711744 := by rw [← hx2]; exact Nat.mul_le_mul ba1 ba1
          have kx0 : IntKind.i64.wrap ((a0 : Int) * (a0 : Int)) = (x0 : Int) := by rw [← Int.natCast_mul, hx0]; exact IntWalk.i64_in _ (by omega)
          have kz : IntKind.i64.wrap (2 * (a0 : Int)) = (z : Int) := by rw [show (2 : Int) * (a0 : Int) = (z : Int) by omega]; exact IntWalk.i64_in _ (by omega)
          have kx1 : IntKind.i64.wrap ((z : Int) * (a1 : Int)) = (x1 : Int) := by rw [← Int.natCast_mul, hx1]; exact IntWalk.i64_in _ (by omega)
          have kx2 : IntKind.i64.wrap ((a1 : Int) * (a1 : Int)) = (x2 : Int) := by rw [← Int.natCast_mul, hx2]; exact IntWalk.i64_in _ (by omega)
          have hV : dgP (N3 x0 x1 x2) 3 3 = A * A := by
            rw [dgP_3, ← hx0, ← hx1, ← hx2, ← hz, HAe.out]
            grind
          obtain ⟨V, hVe⟩ : ∃ V, A * A = V := ⟨_, rfl⟩
          rw [hVe] at hV EM
          have hVb : V ≤ 1329227995784915872903807060280344576 := by rw [← hVe]; exact Nat.mul_le_mul hAb hAb
          have DG := rdigits_any (N3 x0 x1 x2) (some ⟨W2.heap.size, 0, none⟩) 3 3 (W2.alloc (.cells #[.int .i64 (x0 : Int), .int .i64 (x1 : Int), .int .i64 (x2 : Int)] 2)) (by decide) (fun i _ => N3_lt c0 c1 c2 i) (slc3 W2 _ x0 x1 x2)
          rw [hV] at DG
          have DG := Lib.hid DG
          clear hx0 hz hx1 hx2 hV hVe HAe hAb c0 c1 c2
          refine wp_region_lit ?_
          refine wpList_val (v := ?_) rfl ?_ ?_
          rotate_left
          · (go_simp; (try (first | with_reducible rfl | (constructor <;> with_reducible rfl))))
          (try simp only [Act.put, nA, nB, nC])
          refine wpList_val (v := ?_) rfl ?_ ?_
          rotate_left
          · (go_simp; (try (first | with_reducible rfl | (constructor <;> with_reducible rfl))))
          (try simp only [Act.put, nA, nB, nC])
          refine wpList_val (v := ?_) rfl ?_ ?_
          rotate_left
          · (go_simp; (try rw [kx0]); (try with_reducible rfl))
          (try simp only [Act.put, nA, nB, nC])
          refine wpList_val (v := ?_) rfl ?_ ?_
          rotate_left
          · (go_simp; (try (first | with_reducible rfl | (constructor <;> with_reducible rfl))))
          (try simp only [Act.put, nA, nB, nC])
          refine wpList_val (v := ?_) rfl ?_ ?_
          rotate_left
          · (go_simp; (try rw [kz]); (try with_reducible rfl))
          (try simp only [Act.put, nA, nB, nC])
          refine wpList_val (v := ?_) rfl ?_ ?_
          rotate_left
          · (go_simp; (try (first | with_reducible rfl | (constructor <;> with_reducible rfl))))
          (try simp only [Act.put, nA, nB, nC])
          refine wpList_val (v := ?_) rfl ?_ ?_
          rotate_left
          · (go_simp; (try rw [kx1]); (try with_reducible rfl))
          (try simp only [Act.put, nA, nB, nC])
          refine wpList_val (v := ?_) rfl ?_ ?_
          rotate_left
          · (go_simp; (try (first | with_reducible rfl | (constructor <;> with_reducible rfl))))
          (try simp only [Act.put, nA, nB, nC])
          refine wpList_val (v := ?_) rfl ?_ ?_
          rotate_left
          · (go_simp; (try (first | with_reducible rfl | (constructor <;> with_reducible rfl))))
          (try simp only [Act.put, nA, nB, nC])
          refine wpList_val (v := ?_) rfl ?_ ?_
          rotate_left
          · (go_simp; (try rw [kx2]); (try with_reducible rfl))
          (try simp only [Act.put, nA, nB, nC])
          refine wpList_act (v := ?_) (w' := ?_) rfl ?_ ?_
          rotate_left 2
          · (go_simp; (try (first | with_reducible rfl | (constructor <;> with_reducible rfl))))
          (try simp only [Act.put, nA, nB, nC])
          refine wpList_step (fun K hK => ?_)
          go_simp
          (refine DG.out.mono ?_); rintro e w5 ⟨v, rfl, ho, hb⟩; obtain ⟨q1, p1, rfl, _, _, hcl⟩ := ho.slc (by decide); have B5 := Lib.hid (Below.after (B2.out.alloc B2.out.size _) hb); have L5 : Hid (DgB w5 q1 6 V) := Lib.hid hcl; clear ho hb hcl
          (try dsimp only)
          (try simp only [Act.put, nA, nB, nC])
          refine hK _ _ ?_
          clear hK K
          refine wpList_val (v := ?_) rfl ?_ ?_
          rotate_left
          · (go_simp; (try (first | with_reducible rfl | (constructor <;> with_reducible rfl))))
          (try simp only [Act.put, nA, nB, nC])
          refine wpList_nil ?_
          clear kx0 kz kx1 kx2 DG B2 ba0 ba1
          have f2 := and31 B (by omega)
          obtain ⟨b0, hb0⟩ : ∃ x, B % 2147483648 = x := ⟨_, rfl⟩
          obtain ⟨b1, hb1⟩ : ∃ x, B / 2147483648 = x := ⟨_, rfl⟩
          rw [hb0] at f2
          have j1 : (B : Int) / 2147483648 = (b1 : Int) := by omega
          have bb0 : b0 < 2147483648 := by omega
          have bb1 : b1 ≤ 536870912 := by omega
          have HBe := Lib.hid (show B = b1 * 2147483648 + b0 by omega)
          clear hb0 hb1
          go_upto_region 12 with fail
          (try rw [f2]); (try rw [j1])
          clear f2 j1
          obtain ⟨y0, hy0⟩ : ∃ x, b0 * KK = x := ⟨_, rfl⟩
          obtain ⟨y1, hy1⟩ : ∃ x, b1 * KK = x := ⟨_, rfl⟩
          have c0 : y0 ≤ 2147483648000000 := by rw [← hy0]; exact Nat.le_trans (Nat.mul_le_mul (show b0 ≤ 2147483648 by omega) hKb) (by decide)
          have c1 : y1 ≤ 536870912000000 := by rw [← hy1]; exact Nat.le_trans (Nat.mul_le_mul bb1 hKb) (by decide)
          have ky0 : IntKind.i64.wrap ((b0 : Int) * (KK : Int)) = (y0 : Int) := by rw [← Int.natCast_mul, hy0]; exact IntWalk.i64_in _ (by omega)
          have ky1 : IntKind.i64.wrap ((b1 : Int) * (KK : Int)) = (y1 : Int) := by rw [← Int.natCast_mul, hy1]; exact IntWalk.i64_in _ (by omega)
          have ky2 : IntKind.i64.wrap (y0 : Int) = (y0 : Int) := IntWalk.i64_in _ (by omega)
          have hU : dgP (N3 y0 y1 0) 3 3 = B * KK := by
            rw [dgP_3, ← hy0, ← hy1, HBe.out]
            grind
          have hUV : KK * 65536 * B = B * KK * 65536 := by grind
          obtain ⟨U, hUe⟩ : ∃ U, B * KK = U := ⟨_, rfl⟩
          rw [hUe] at hU hUV
          rw [hUV] at EM
          have hUb : U ≤ 1152921504606846976000000 := by rw [← hUe]; exact Nat.mul_le_mul hBb hKb
          have DG := rdigits_any (N3 y0 y1 0) (some ⟨w5.heap.size, 0, none⟩) 3 3 (w5.alloc (.cells #[.int .i64 (y0 : Int), .int .i64 (y1 : Int), .int .i64 0] 2)) (by decide) (fun i _ => N3_lt (by omega) (by omega) (by omega) i) (slc30 w5 _ y0 y1)
          rw [hU] at DG
          have DG := Lib.hid DG
          clear hy0 hy1 hU hUV hUe HBe hBb hKb bb0 bb1
          refine wp_region_lit ?_
          refine wpList_val (v := ?_) rfl ?_ ?_
          rotate_left
          · (go_simp; (try (first | with_reducible rfl | (constructor <;> with_reducible rfl))))
          (try simp only [Act.put, nA, nB, nC])
          refine wpList_val (v := ?_) rfl ?_ ?_
          rotate_left
          · (go_simp; (try (first | with_reducible rfl | (constructor <;> with_reducible rfl))))
          (try simp only [Act.put, nA, nB, nC])
          refine wpList_val (v := ?_) rfl ?_ ?_
          rotate_left
          · (go_simp; (try rw [ky0]); (try with_reducible rfl))
          (try simp only [Act.put, nA, nB, nC])
          refine wpList_val (v := ?_) rfl ?_ ?_
          rotate_left
          · (go_simp; (try rw [ky2]); (try with_reducible rfl))
          (try simp only [Act.put, nA, nB, nC])
          refine wpList_val (v := ?_) rfl ?_ ?_
          rotate_left
          · (go_simp; (try (first | with_reducible rfl | (constructor <;> with_reducible rfl))))
          (try simp only [Act.put, nA, nB, nC])
          refine wpList_val (v := ?_) rfl ?_ ?_
          rotate_left
          · (go_simp; (try (first | with_reducible rfl | (constructor <;> with_reducible rfl))))
          (try simp only [Act.put, nA, nB, nC])
          refine wpList_val (v := ?_) rfl ?_ ?_
          rotate_left
          · (go_simp; (try rw [ky1]); (try with_reducible rfl))
          (try simp only [Act.put, nA, nB, nC])
          refine wpList_act (v := ?_) (w' := ?_) rfl ?_ ?_
          rotate_left 2
          · (go_simp; (try (first | with_reducible rfl | (constructor <;> with_reducible rfl))))
          (try simp only [Act.put, nA, nB, nC])
          refine wpList_step (fun K hK => ?_)
          go_simp
          (refine DG.out.mono ?_); rintro e w6 ⟨v, rfl, ho, hb⟩; obtain ⟨q2, p2, rfl, _, _, hcl⟩ := ho.slc (by decide); have hb2 := Below.after ((Below.refl w5.heap.size w5).alloc (Nat.le_refl _) (.cells #[.int .i64 (y0 : Int), .int .i64 (y1 : Int), .int .i64 0] 2)) hb; have B6 := Lib.hid (Below.after B5.out hb2); have L6 := Lib.hid (L5.out.below hb2); have D6 : Hid (DgB w6 q2 6 U) := Lib.hid hcl; clear ho hb hcl hb2
          (try dsimp only)
          (try simp only [Act.put, nA, nB, nC])
          refine hK _ _ ?_
          clear hK K
          refine wpList_val (v := ?_) rfl ?_ ?_
          rotate_left
          · (go_simp; (try (first | with_reducible rfl | (constructor <;> with_reducible rfl))))
          (try simp only [Act.put, nA, nB, nC])
          refine wpList_nil ?_
          clear ky0 ky1 ky2 DG B5 L5 c0 c1
          have hd31 : ∀ i, digF U i < 2147483648 := fun i => Nat.mod_lt _ (by decide)
          obtain ⟨r0, hr0⟩ : ∃ x, digF U 0 = x := ⟨_, rfl⟩
          obtain ⟨r1, hr1⟩ : ∃ x, digF U 1 = x := ⟨_, rfl⟩
          obtain ⟨r2, hr2⟩ : ∃ x, digF U 2 = x := ⟨_, rfl⟩
          obtain ⟨r3, hr3⟩ : ∃ x, digF U 3 = x := ⟨_, rfl⟩
          obtain ⟨r4, hr4⟩ : ∃ x, digF U 4 = x := ⟨_, rfl⟩
          have m0 : w6.cell? ⟨q2, 0, none⟩ = some (.int .i64 (r0 : Int)) := by rw [← hr0]; exact D6.out 0 (by decide)
          have m1 : w6.cell? ⟨q2, 1, none⟩ = some (.int .i64 (r1 : Int)) := by rw [← hr1]; exact D6.out 1 (by decide)
          have m2 : w6.cell? ⟨q2, 2, none⟩ = some (.int .i64 (r2 : Int)) := by rw [← hr2]; exact D6.out 2 (by decide)
          have m3 : w6.cell? ⟨q2, 3, none⟩ = some (.int .i64 (r3 : Int)) := by rw [← hr3]; exact D6.out 3 (by decide)
          have m4 : w6.cell? ⟨q2, 4, none⟩ = some (.int .i64 (r4 : Int)) := by rw [← hr4]; exact D6.out 4 (by decide)
          have z0 : r0 < 2147483648 := by rw [← hr0]; exact hd31 0
          have z1 : r1 < 2147483648 := by rw [← hr1]; exact hd31 1
          have z2 : r2 < 2147483648 := by rw [← hr2]; exact hd31 2
          have z3 : r3 < 2147483648 := by rw [← hr3]; exact hd31 3
          have z4 : r4 < 2147483648 := by rw [← hr4]; exact hd31 4
          have HW5 : dgP (N5 (r0 * 65536) (r1 * 65536) (r2 * 65536) (r3 * 65536) (r4 * 65536)) 5 5 = U * 65536 := by
            rw [dgP_5, ← hr0, ← hr1, ← hr2, ← hr3, ← hr4]
            unfold digF
            simp only [Nat.mul_zero, Nat.pow_zero, Nat.div_one]
            rw [show (2 : Nat) ^ (31 * 1) = 2147483648 from rfl, show (2 : Nat) ^ (31 * 2) = 4611686018427387904 from rfl, show (2 : Nat) ^ (31 * 3) = 9903520314283042199192993792 from rfl, show (2 : Nat) ^ (31 * 4) = 21267647932558653966460912964485513216 from rfl]
            omega
          obtain ⟨s0, hs0⟩ : ∃ x, r0 * 65536 = x := ⟨_, rfl⟩
          have kr0 : IntKind.i64.wrap ((r0 : Int) * 65536) = (s0 : Int) := by rw [show ((r0 : Int) * 65536) = (s0 : Int) by omega]; exact IntWalk.i64_in _ (by omega)
          have es0 : (r0 : Int) * 65536 = (s0 : Int) := by omega
          obtain ⟨s1, hs1⟩ : ∃ x, r1 * 65536 = x := ⟨_, rfl⟩
          have kr1 : IntKind.i64.wrap ((r1 : Int) * 65536) = (s1 : Int) := by rw [show ((r1 : Int) * 65536) = (s1 : Int) by omega]; exact IntWalk.i64_in _ (by omega)
          have es1 : (r1 : Int) * 65536 = (s1 : Int) := by omega
          obtain ⟨s2, hs2⟩ : ∃ x, r2 * 65536 = x := ⟨_, rfl⟩
          have kr2 : IntKind.i64.wrap ((r2 : Int) * 65536) = (s2 : Int) := by rw [show ((r2 : Int) * 65536) = (s2 : Int) by omega]; exact IntWalk.i64_in _ (by omega)
          have es2 : (r2 : Int) * 65536 = (s2 : Int) := by omega
          obtain ⟨s3, hs3⟩ : ∃ x, r3 * 65536 = x := ⟨_, rfl⟩
          have kr3 : IntKind.i64.wrap ((r3 : Int) * 65536) = (s3 : Int) := by rw [show ((r3 : Int) * 65536) = (s3 : Int) by omega]; exact IntWalk.i64_in _ (by omega)
          have es3 : (r3 : Int) * 65536 = (s3 : Int) := by omega
          obtain ⟨s4, hs4⟩ : ∃ x, r4 * 65536 = x := ⟨_, rfl⟩
          have kr4 : IntKind.i64.wrap ((r4 : Int) * 65536) = (s4 : Int) := by rw [show ((r4 : Int) * 65536) = (s4 : Int) by omega]; exact IntWalk.i64_in _ (by omega)
          have es4 : (r4 : Int) * 65536 = (s4 : Int) := by omega
          rw [hs0, hs1, hs2, hs3, hs4] at HW5
          have DG := rdigits_any (N5 s0 s1 s2 s3 s4) (some ⟨w6.heap.size, 0, none⟩) 5 5 (w6.drew.alloc (.cells #[.int .i64 (s0 : Int), .int .i64 (s1 : Int), .int .i64 (s2 : Int), .int .i64 (s3 : Int), .int .i64 (s4 : Int)] 2)) (by decide) (fun i _ => by
            unfold N5
            repeat' split
            all_goals omega) (by exact slc5 w6.drew _ s0 s1 s2 s3 s4)
          rw [HW5] at DG
          have DG := Lib.hid DG
          have KR := Lib.hid (And.intro kr0 (And.intro kr1 (And.intro kr2 (And.intro kr3 kr4))))
          have KE := Lib.hid (And.intro es0 (And.intro es1 (And.intro es2 (And.intro es3 es4))))
          have hUb2 : U * 65536 ≤ 75557863725914323419136000000 := by omega
          obtain ⟨R, hR⟩ : ∃ R, U * 65536 = R := ⟨_, rfl⟩
          rw [hR] at DG EM hUb2
          clear hr0 hr1 hr2 hr3 hr4 hd31 D6 HW5 hs0 hs1 hs2 hs3 hs4 kr0 kr1 kr2 kr3 kr4 es0 es1 es2 es3 es4 z0 z1 z2 z3 z4 hUb hR
          go_upto_region 13 with fail
          refine wp_region_M (fun w' => w'.cell? ⟨q2, 0, none⟩ = some (.int .i64 (r0 : Int)) ∧ w'.cell? ⟨q2, 1, none⟩ = some (.int .i64 (r1 : Int)) ∧ w'.cell? ⟨q2, 2, none⟩ = some (.int .i64 (r2 : Int)) ∧ w'.cell? ⟨q2, 3, none⟩ = some (.int .i64 (r3 : Int)) ∧ w'.cell? ⟨q2, 4, none⟩ = some (.int .i64 (r4 : Int))) 22 (by kernel_rfl) ?_ (fun hHeld => ?_)
          · exact ⟨m0, m1, m2, m3, m4⟩
          refine wpAnyM_take 0 (v := ?_) rfl (by kernel_rfl) (fun _ _ _ h => h) (Or.inl ⟨by rfl, ?_⟩) (by assumption) ?_
          rotate_left
          · (intro wx hSw; (try dsimp only at hSw); go_simp; (try with_reducible rfl))
          (try simp only [Act.put, nA, nB, nC])
          refine wpAnyM_take 1 (v := ?_) rfl (by kernel_rfl) (fun _ _ _ h => h) (Or.inl ⟨by rfl, ?_⟩) (by assumption) ?_
          rotate_left
          · (intro wx hSw; (try dsimp only at hSw); go_simp; (try with_reducible rfl))
          (try simp only [Act.put, nA, nB, nC])
          refine wpAnyM_take 2 (v := ?_) rfl (by kernel_rfl) (fun _ _ _ h => h) (Or.inl ⟨by rfl, ?_⟩) (by assumption) ?_
          rotate_left
          · (intro wx hSw; have q0 := hSw.1; clear hSw; go_simp; (try with_reducible rfl))
          (try simp only [Act.put, nA, nB, nC])
          refine wpAnyM_take 3 (v := ?_) rfl (by kernel_rfl) (fun _ _ _ h => h) (Or.inl ⟨by rfl, ?_⟩) (by assumption) ?_
          rotate_left
          · (intro wx hSw; go_simp; (first | rw [KR.out.1] | rw [KE.out.1] | skip); (try with_reducible rfl))
          (try simp only [Act.put, nA, nB, nC])
          refine wpAnyM_take 4 (v := ?_) rfl (by kernel_rfl) (fun _ _ _ h => h) (Or.inl ⟨by rfl, ?_⟩) (by assumption) ?_
          rotate_left
          · (intro wx hSw; (try dsimp only at hSw); go_simp; (try with_reducible rfl))
          (try simp only [Act.put, nA, nB, nC])
          refine wpAnyM_take 5 (v := ?_) rfl (by kernel_rfl) (fun _ _ _ h => h) (Or.inl ⟨by rfl, ?_⟩) (by assumption) ?_
          rotate_left
          · (intro wx hSw; (try dsimp only at hSw); go_simp; (try with_reducible rfl))
          (try simp only [Act.put, nA, nB, nC])
          refine wpAnyM_take 6 (v := ?_) rfl (by kernel_rfl) (fun _ _ _ h => h) (Or.inl ⟨by rfl, ?_⟩) (by assumption) ?_
          rotate_left
          · (intro wx hSw; have q0 := hSw.2.1; clear hSw; go_simp; (try with_reducible rfl))
          (try simp only [Act.put, nA, nB, nC])
          refine wpAnyM_take 7 (v := ?_) rfl (by kernel_rfl) (fun _ _ _ h => h) (Or.inl ⟨by rfl, ?_⟩) (by assumption) ?_
          rotate_left
          · (intro wx hSw; go_simp; (first | rw [KR.out.2.1] | rw [KE.out.2.1] | skip); (try with_reducible rfl))
          (try simp only [Act.put, nA, nB, nC])
          refine wpAnyM_take 8 (v := ?_) rfl (by kernel_rfl) (fun _ _ _ h => h) (Or.inl ⟨by rfl, ?_⟩) (by assumption) ?_
          rotate_left
          · (intro wx hSw; (try dsimp only at hSw); go_simp; (try with_reducible rfl))
          (try simp only [Act.put, nA, nB, nC])
          refine wpAnyM_take 9 (v := ?_) rfl (by kernel_rfl) (fun _ _ _ h => h) (Or.inl ⟨by rfl, ?_⟩) (by assumption) ?_
          rotate_left
          · (intro wx hSw; (try dsimp only at hSw); go_simp; (try with_reducible rfl))
          (try simp only [Act.put, nA, nB, nC])
          refine wpAnyM_take 10 (v := ?_) rfl (by kernel_rfl) (fun _ _ _ h => h) (Or.inl ⟨by rfl, ?_⟩) (by assumption) ?_
          rotate_left
          · (intro wx hSw; have q0 := hSw.2.2.1; clear hSw; go_simp; (try with_reducible rfl))
          (try simp only [Act.put, nA, nB, nC])
          refine wpAnyM_take 11 (v := ?_) rfl (by kernel_rfl) (fun _ _ _ h => h) (Or.inl ⟨by rfl, ?_⟩) (by assumption) ?_
          rotate_left
          · (intro wx hSw; go_simp; (first | rw [KR.out.2.2.1] | rw [KE.out.2.2.1] | skip); (try with_reducible rfl))
          (try simp only [Act.put, nA, nB, nC])
          refine wpAnyM_take 12 (v := ?_) rfl (by kernel_rfl) (fun _ _ _ h => h) (Or.inl ⟨by rfl, ?_⟩) (by assumption) ?_
          rotate_left
          · (intro wx hSw; (try dsimp only at hSw); go_simp; (try with_reducible rfl))
          (try simp only [Act.put, nA, nB, nC])
          refine wpAnyM_take 13 (v := ?_) rfl (by kernel_rfl) (fun _ _ _ h => h) (Or.inl ⟨by rfl, ?_⟩) (by assumption) ?_
          rotate_left
          · (intro wx hSw; (try dsimp only at hSw); go_simp; (try with_reducible rfl))
          (try simp only [Act.put, nA, nB, nC])
          refine wpAnyM_take 14 (v := ?_) rfl (by kernel_rfl) (fun _ _ _ h => h) (Or.inl ⟨by rfl, ?_⟩) (by assumption) ?_
          rotate_left
          · (intro wx hSw; have q0 := hSw.2.2.2.1; clear hSw; go_simp; (try with_reducible rfl))
          (try simp only [Act.put, nA, nB, nC])
          refine wpAnyM_take 15 (v := ?_) rfl (by kernel_rfl) (fun _ _ _ h => h) (Or.inl ⟨by rfl, ?_⟩) (by assumption) ?_
          rotate_left
          · (intro wx hSw; go_simp; (first | rw [KR.out.2.2.2.1] | rw [KE.out.2.2.2.1] | skip); (try with_reducible rfl))
          (try simp only [Act.put, nA, nB, nC])
          refine wpAnyM_take 16 (v := ?_) rfl (by kernel_rfl) (fun _ _ _ h => h) (Or.inl ⟨by rfl, ?_⟩) (by assumption) ?_
          rotate_left
          · (intro wx hSw; (try dsimp only at hSw); go_simp; (try with_reducible rfl))
          (try simp only [Act.put, nA, nB, nC])
          refine wpAnyM_take 17 (v := ?_) rfl (by kernel_rfl) (fun _ _ _ h => h) (Or.inl ⟨by rfl, ?_⟩) (by assumption) ?_
          rotate_left
          · (intro wx hSw; (try dsimp only at hSw); go_simp; (try with_reducible rfl))
          (try simp only [Act.put, nA, nB, nC])
          refine wpAnyM_take 18 (v := ?_) rfl (by kernel_rfl) (fun _ _ _ h => h) (Or.inl ⟨by rfl, ?_⟩) (by assumption) ?_
          rotate_left
          · (intro wx hSw; have q0 := hSw.2.2.2.2; clear hSw; go_simp; (try with_reducible rfl))
          (try simp only [Act.put, nA, nB, nC])
          refine wpAnyM_take 19 (v := ?_) rfl (by kernel_rfl) (fun _ _ _ h => h) (Or.inl ⟨by rfl, ?_⟩) (by assumption) ?_
          rotate_left
          · (intro wx hSw; go_simp; (first | rw [KR.out.2.2.2.2] | rw [KE.out.2.2.2.2] | skip); (try with_reducible rfl))
          (try simp only [Act.put, nA, nB, nC])
          refine wpAnyM_oneS 20 rfl (by kernel_rfl) (fun K hK => ?_)
          go_simp
          clear hHeld
          refine hK.out _ _ ?_ (fun hHeld => ?_)
          · exact (by have b := fun o ho => ((Below.refl w6.drew.heap.size w6.drew).alloc (Nat.le_refl _) (.cells #[.int .i64 (s0 : Int), .int .i64 (s1 : Int), .int .i64 (s2 : Int), .int .i64 (s3 : Int), .int .i64 (s4 : Int)] 2)).cell (p := ⟨q2, o, none⟩) ho; exact ⟨(b 0 (World.block_lt_of_cell? _ _ m0)).trans m0, (b 1 (World.block_lt_of_cell? _ _ m1)).trans m1, (b 2 (World.block_lt_of_cell? _ _ m2)).trans m2, (b 3 (World.block_lt_of_cell? _ _ m3)).trans m3, (b 4 (World.block_lt_of_cell? _ _ m4)).trans m4⟩)
          clear hK K
          (try simp only [Act.put, nA, nB, nC])
          refine wpAnyM_oneS 21 rfl (by kernel_rfl) (fun K hK => ?_)
          go_simp
          (refine DG.out.mono ?_); rintro e w7 ⟨v, rfl, ho, hb⟩; obtain ⟨q3, p3, rfl, _, _, hcl⟩ := ho.slc (by decide); have hb2 := Below.after (((Below.refl w6.heap.size w6).drew).alloc (Nat.le_refl _) (.cells #[.int .i64 (s0 : Int), .int .i64 (s1 : Int), .int .i64 (s2 : Int), .int .i64 (s3 : Int), .int .i64 (s4 : Int)] 2)) hb; have B7 := Lib.hid (Below.after B6.out hb2); have L7 := Lib.hid (L6.out.below hb2); have D7 : Hid (DgB w7 q3 8 R) := Lib.hid hcl; have kp := (show _ ∧ _ ∧ _ ∧ _ ∧ _ from ⟨(hb2.cell (p := ⟨q2, 0, none⟩) (World.block_lt_of_cell? _ _ m0)).trans m0, (hb2.cell (p := ⟨q2, 1, none⟩) (World.block_lt_of_cell? _ _ m1)).trans m1, (hb2.cell (p := ⟨q2, 2, none⟩) (World.block_lt_of_cell? _ _ m2)).trans m2, (hb2.cell (p := ⟨q2, 3, none⟩) (World.block_lt_of_cell? _ _ m3)).trans m3, (hb2.cell (p := ⟨q2, 4, none⟩) (World.block_lt_of_cell? _ _ m4)).trans m4⟩); clear ho hb hcl hb2
          (try dsimp only)
          (try simp only [Act.put, nA, nB, nC])
          clear hHeld
          refine hK.out _ _ ?_ (fun hHeld => ?_)
          · exact kp
          clear hK K
          (try simp only [Act.put, nA, nB, nC])
          refine wpAnyM_one 22 rfl (by kernel_rfl) (fun K hK => ?_)
          go_simp
          refine hK.out _ _ (.inl (by kernel_rfl)) (fun _ => ?_)
          clear hK K
          (try simp only [Act.put, nA, nB, nC])
          refine wpAnyM_done (by kernel_rfl) ?_ _
          (try clear hHeld)
          clear m0 m1 m2 m3 m4 kp KR KE DG B6 L6
          have hV248 : V / 2 ^ (31 * 8) = R / 2 ^ (31 * 8) := by
            rw [Nat.div_eq_of_lt (Nat.lt_of_le_of_lt hVb (by decide)), Nat.div_eq_of_lt (Nat.lt_of_le_of_lt hUb2 (by decide))]
          have hV0 : ∀ i, 6 ≤ i → digF V i = 0 := fun i hi => dig_zero (Nat.lt_of_lt_of_le (Nat.lt_of_le_of_lt hVb (show (1329227995784915872903807060280344576 : Nat) < 2 ^ (31 * 6) by decide)) (Nat.pow_le_pow_right (by decide) (by omega)))
          have HV8 := Lib.hid hV248
          have HV0 := Lib.hid hV0
          clear hV248 hV0 hVb hUb2
          go_wp2_with fail
          go_loopw [15] (fun v wr => ∃ (j : Nat) (x : Int), j ≤ 8 ∧ x = (j : Int) - 1 ∧ v = .int .i64 x ∧ Hid (V / 2 ^ (31 * j) = R / 2 ^ (31 * j) ∧ Below w.heap.size w wr ∧ DgB wr q1 6 V ∧ DgB wr q3 8 R)) (fun v _ => (intOf v + 1).toNat)
          case atStart => exact ⟨8, 7, by omega, by omega, rfl, Lib.hid ⟨HV8.out, B7.out, L7.out, D7.out⟩⟩
          case round =>
            obtain ⟨j, x, hj, hx, rfl, T⟩ := hrel
            clear B7 L7 D7
            cases j with
            | zero =>
              have g1 : decide (0 ≤ x) = false := by simp; omega
              have YES := Lib.hid (show likB y s (G : Int) = true by
                rw [EM.out]
                have h := T.out.1
                simp only [Nat.mul_zero, Nat.pow_zero, Nat.div_one] at h
                rw [h]; simp)
              go_wp2_with fail
              go_ret
              exact ⟨by rw [YES.out]; rfl, T.out.2.1⟩
            | succ m =>
              obtain rfl : x = (m : Int) := by omega
              have m0 : (0 : Int) ≤ (m : Int) := Int.natCast_nonneg _
              have m8 : (m : Int) < 8 := by omega
              have g1 : decide (0 ≤ (m : Int)) = true := by simp
              have rc : wr.cell? ⟨q3, m, none⟩ = some (.int .i64 ((digF R m : Nat) : Int)) := by have h := T.out.2.2.2 m (by omega); rwa [Nat.zero_add] at h
              have LT := Lib.hid (fun (h : digF V m < digF R m) => dig_lt T.out.1 h)
              have GT := Lib.hid (fun (h : digF R m < digF V m) => dig_lt T.out.1.symm h)
              have EQ := Lib.hid (fun (h : digF V m = digF R m) => dig_eq T.out.1 h)
              have vz : 6 ≤ m → digF V m = 0 := HV0.out m
              have vc : m < 6 → wr.cell? ⟨q1, m, none⟩ = some (.int .i64 ((digF V m : Nat) : Int)) := fun h => by have h := T.out.2.2.1 m h; rwa [Nat.zero_add] at h
              obtain ⟨dr, hdr⟩ : ∃ x, digF R m = x := ⟨_, rfl⟩
              obtain ⟨dv, hdv⟩ : ∃ x, digF V m = x := ⟨_, rfl⟩
              rw [hdr] at rc LT GT EQ
              rw [hdv] at LT GT EQ vz vc
              have HT := Lib.hid T.out
              clear hdr hdv T hj hx
              have res : ∀ (b : Bool), dv ≠ dr → decide (dv < dr) = b → likB y s (G : Int) = b := by
                intro b hne hb
                rw [EM.out, ← hb, decide_eq_decide]
                constructor
                · intro h
                  rcases Nat.lt_or_gt_of_ne hne with h1 | h1
                  · exact h1
                  · have := GT.out h1; omega
                · intro h
                  exact Nat.le_of_lt (LT.out h)
              have RES := Lib.hid res
              clear res LT GT
              by_cases h6 : m < 6
              · have g2 : decide ((m : Int) < 6) = true := by simp; omega
                have vc1 := vc h6
                clear vc vz
                by_cases he : dv = dr
                · subst he
                  have q1' : ((dv : Int) != (dv : Int)) = false := by simp
                  have ENE := Lib.hid (EQ.out rfl)
                  go_wp2_with fail
                  go_roundw
                  case rel => exact ⟨m, (m : Int) - 1, by omega, rfl, by go_num, Lib.hid ⟨ENE.out, HT.out.2.1, HT.out.2.2.1, HT.out.2.2.2⟩⟩
                  case measure => simp [intOf]
                · have q1' : ((dv : Int) != (dr : Int)) = true := by simp; omega
                  have RS := Lib.hid (RES.out _ he rfl)
                  have q2' : decide ((dv : Int) < (dr : Int)) = decide (dv < dr) := by rw [decide_eq_decide]; omega
                  clear he
                  go_wp2_with fail
                  go_ret
                  exact ⟨by rw [RS.out]; rw [← q2']; rfl, HT.out.2.1⟩
              · have g2 : decide ((m : Int) < 6) = false := by simp; omega
                obtain rfl := vz (by omega)
                clear vc
                by_cases he : 0 = dr
                · subst he
                  have q1' : ((0 : Int) != 0) = false := by simp
                  have ENE := Lib.hid (EQ.out rfl)
                  go_wp2_with fail
                  go_roundw
                  case rel => exact ⟨m, (m : Int) - 1, by omega, rfl, by go_num, Lib.hid ⟨ENE.out, HT.out.2.1, HT.out.2.2.1, HT.out.2.2.2⟩⟩
                  case measure => simp [intOf]
                · have q1' : ((0 : Int) != (dr : Int)) = true := by simp; omega
                  have RS := Lib.hid (RES.out _ he rfl)
                  clear he
                  go_wp2_with fail
                  go_ret
                  exact ⟨by rw [RS.out]; rfl, HT.out.2.1⟩
end Go.Proofs.Ytpbgglkopfjagaa
