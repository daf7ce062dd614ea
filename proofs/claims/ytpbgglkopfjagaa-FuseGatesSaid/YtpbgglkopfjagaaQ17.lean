/- Contracts of the program's functions and plain laws, part 17: they hold for all arguments. -/
import Derived.Test.YtpbgglkopfjagaaQ16
import Derived.Test.YtpbgglkopfjagaaQ07
import Derived.Test.YtpbgglkopfjagaaQ08
import Derived.Test.YtpbgglkopfjagaaQ09
import Derived.Laws.Bits64b
/- Contracts of the reference's sizes (4): Mul, Pow. -/
namespace Go.Proofs.Ytpbgglkopfjagaa
open Go.RowKit
set_option maxRecDepth 100000
/-- The blocks of 'Mul'. -/
structure MuB (m n : Bool) (f g p : Nat → Nat) (w wr : World) : Prop where
  below : Below w.heap.size w wr
  a : Row wr w.heap.size 50 (bg m f)
  b : Row wr (w.heap.size + 1) 50 (bg n g)
  r : Row wr (w.heap.size + 1 + 1) 50 (bg false (fun _ => 0))
  p : Row wr (w.heap.size + 1 + 1 + 1) 48 (uv p)
section
variable {m n : Bool} {f g p p' : Nat → Nat} {w wr w' : World}
theorem MuB.down (s : MuB m n f g p w wr) (k : Below wr.heap.size wr w') : MuB m n f g p w w' := ⟨s.below.trans (k.mono s.below.size), s.a.below k, s.b.below k, s.r.below k, s.p.below k⟩
theorem MuB.drews (s : MuB m n f g p w wr) (k : Nat) : MuB m n f g p w (wr.drewN k) := s.down (below_drewN (Below.refl _ _) k)
theorem MuB.set (s : MuB m n f g p w wr) (i v : Nat) : MuB m n f g (updN p i v) w (wr.setCell ⟨w.heap.size + 1 + 1 + 1, i, none⟩ (.int .u64 ((v : Nat) : Int))) :=
  ⟨s.below.setCell (by (try simp); (try omega)) _, s.a.other (by (try simp); (try omega)) _, s.b.other (by (try simp); (try omega)) _, s.r.other (by (try simp); (try omega)) _, s.p.setU i v⟩
theorem MuB.congr (s : MuB m n f g p w wr) (e : ∀ i, i < 8 → p i = p' i) : MuB m n f g p' w wr := ⟨s.below, s.a, s.b, s.r, by rw [← uv_congr e]; exact s.p⟩
end
set_option maxHeartbeats 8000000 in
theorem bmul_any (m n : Bool) (M N : Nat) (w : World) (hM : M < 115792089237316195423570985008687907853269984665640564039457584007913129639936) (hMN : M * N < 115792089237316195423570985008687907853269984665640564039457584007913129639936) :
    Calls Try.prog 12 #[.agg (bg m (d32 M)), .agg (bg n (d32 N))] w fun e w' => e = .returned (.agg (bg ((!(m == n)) && !decide (M * N = 0)) (d32 (M * N)))) ∧ Below w.heap.size w w' := by
  have S0 := Lib.hid (show MuB m n (d32 M) (d32 N) (fun _ => 0) w ((((w.alloc (.cells (bg m (d32 M)) 50)).alloc (.cells (bg n (d32 N)) 50)).alloc (.cells #[.bool false, .int .u64 0, .int .u64 0, .int .u64 0, .int .u64 0, .int .u64 0, .int .u64 0, .int .u64 0, .int .u64 0] 50)).alloc (.cells #[.int .u64 0, .int .u64 0, .int .u64 0, .int .u64 0, .int .u64 0, .int .u64 0, .int .u64 0, .int .u64 0] 48)) from ⟨by (repeat (first | with_reducible exact Below.refl _ _ | with_reducible apply Below.drew | (with_reducible refine below_drewN ?_ _) | (with_reducible refine Below.alloc ?_ (by (try simp) <;> omega) _) | (with_reducible refine Below.setCell ?_ (by (try simp) <;> omega) _))), (((Row.new w _ _).alloc _).alloc _).alloc _, ((Row.new1 w _ _ _).alloc _).alloc _, by rw [zbg]; exact (Row.new2 w _ _ _ _).alloc _, by rw [zuv]; exact Row.new3 w _ _ _ _ _⟩)
  have MC := Lib.hid (fun (x : World) => bmade_any (!(m == n)) (d32 (M * N)) x)
  rw [zerB_d32 _ hMN] at MC
  have H0 := Lib.hid (And.intro (show M % 2 ^ (32 * 8) = M from Nat.mod_eq_of_lt hM) (show ∀ j, d32 ((M % 2 ^ (32 * 0)) * N) j = 0 from fun j => by rw [Nat.mul_zero, Nat.pow_zero, Nat.mod_one, Nat.zero_mul]; simp [d32]))
  obtain ⟨X, hX⟩ : ∃ x, M * N = x := ⟨_, rfl⟩
  rw [hX] at MC ⊢
  obtain ⟨b, hb⟩ : ∃ x, ((!(m == n)) && !decide (X = 0)) = x := ⟨_, rfl⟩
  rw [hb] at MC ⊢
  obtain ⟨q, hq⟩ : ∃ q, (!(m == n)) = q := ⟨_, rfl⟩
  rw [hq] at MC
  have HX := Lib.hid (And.intro hX hq)
  clear hX hb hq hM hMN
  go_enter Try.func12, Try.ntmps12
  go_upto_region 2 with fail
  generalize (((w.alloc (.cells (bg m (d32 M)) 50)).alloc (.cells (bg n (d32 N)) 50)).alloc (.cells #[.bool false, .int .u64 0, .int .u64 0, .int .u64 0, .int .u64 0, .int .u64 0, .int .u64 0, .int .u64 0, .int .u64 0] 50)).alloc (.cells #[.int .u64 0, .int .u64 0, .int .u64 0, .int .u64 0, .int .u64 0, .int .u64 0, .int .u64 0, .int .u64 0] 48) = W0 at *
  go_wp2_with fail
  go_loopw [6] (fun i wr => ∃ k : Nat, k ≤ 8 ∧ i = .int .i64 k ∧ Hid (MuB m n (d32 M) (d32 N) (d32 ((M % 2 ^ (32 * k)) * N)) w wr)) (fun i _ => 8 - (intOf i).toNat)
  case atStart => exact ⟨0, by omega, rfl, Lib.hid (S0.out.congr fun i _ => (H0.out.2 i).symm)⟩
  case round =>
    obtain ⟨i, hi, rfl, R⟩ := hrel
    clear S0
    by_cases hlt : i < 8
    · have g1 : decide ((i : Int) < 8) = true := by simp; omega
      have i0 : (0 : Int) ≤ (i : Int) := Int.natCast_nonneg _
      have i1 : (i : Int) < 8 := by omega
      have HE := Lib.hid (fun j (hj : j < 8) => mlF_end M N i j hlt hj)
      obtain ⟨RR, hRR⟩ : ∃ x, (M % 2 ^ (32 * i)) * N = x := ⟨_, rfl⟩
      obtain ⟨R2, hR2⟩ : ∃ x, (M % 2 ^ (32 * (i + 1))) * N = x := ⟨_, rfl⟩
      rw [hRR] at R HE
      rw [hR2] at HE
      have HR2 := Lib.hid hR2
      obtain ⟨a, ha⟩ : ∃ x, d32 M i = x := ⟨_, rfl⟩
      have abd := d32_bd M i
      have HA := Lib.hid (And.intro ha (show a < 4294967296 by rw [← ha]; exact abd))
      rw [ha] at HE
      clear hRR hR2 ha abd
      go_upto_region 6 with fail
      go_wp2_with fail
      go_loopw [7, 8] (fun c k wr => ∃ j : Nat, j ≤ 8 - i ∧ c = .int .u64 ((mlC RR a N i j : Nat) : Int) ∧ k = .int .i64 j ∧ Hid (MuB m n (d32 M) (d32 N) (mlF RR a N i j) w wr)) (fun _ k _ => 8 - (intOf k).toNat)
      case atStart => exact ⟨0, by omega, by rw [mlC_0]; rfl, rfl, Lib.hid (R.out.congr fun j _ => (mlF_0 RR a N i j).symm)⟩
      case round =>
        obtain ⟨k, hk, rfl, rfl, T⟩ := hrel
        clear R
        have kw : IntKind.i64.wrap ((i : Int) + (k : Int)) = ((i + k : Nat) : Int) := by rw [IntWalk.i64_in _ (by omega)]; omega
        by_cases hk2 : i + k < 8
        · obtain ⟨l, hl⟩ : ∃ l, i + k = l := ⟨_, rfl⟩
          have ra := T.out.a.bpart (i := i) hlt
          have rb := T.out.b.bpart (i := k) (by omega)
          have rp := T.out.p.part (i := i + k) hk2
          have rf := T.out.p.free (i + k)
          rw [mlF_at] at rp
          rw [HA.out.1] at ra
          have cb := mlC_bd RR a N i HA.out.2 k
          have sm := ml_sum cb (d32_bd RR (i + k)) HA.out.2 (d32_bd N k)
          have cs := mlC_succ RR a N i k
          have FS := Lib.hid (mlF_succ RR a N i k)
          have pbd := d32_bd RR (i + k)
          have bbd := d32_bd N k
          have abd := HA.out.2
          obtain ⟨c, hc⟩ : ∃ x, mlC RR a N i k = x := ⟨_, rfl⟩
          obtain ⟨p, hp⟩ : ∃ x, d32 RR (i + k) = x := ⟨_, rfl⟩
          obtain ⟨b, hb⟩ : ∃ x, d32 N k = x := ⟨_, rfl⟩
          rw [hc] at cb sm cs FS ⊢
          rw [hp] at rp sm cs FS pbd
          rw [hb] at rb sm cs FS bbd
          have e3 : IntKind.u64.wrap ((a : Int) * (b : Int)) = ((a * b : Nat) : Int) := by
            rw [← Int.natCast_mul, IntKind.wrap_u64]
            have := sm.1
            obtain ⟨y, hy⟩ : ∃ x, a * b = x := ⟨_, rfl⟩
            rw [hy] at this ⊢; omega
          obtain ⟨y, hy⟩ : ∃ x, a * b = x := ⟨_, rfl⟩
          rw [hy] at sm cs FS e3
          have e2 : IntKind.u64.wrap ((c : Int) + (p : Int)) = ((c + p : Nat) : Int) := by rw [IntKind.wrap_u64]; omega
          obtain ⟨x, hx⟩ : ∃ x, c + p = x := ⟨_, rfl⟩
          rw [hx] at sm cs FS e2
          have e4 : IntKind.u64.wrap ((x : Int) + (y : Int)) = ((x + y : Nat) : Int) := by rw [IntKind.wrap_u64]; omega
          obtain ⟨s, hs⟩ : ∃ s, x + y = s := ⟨_, rfl⟩
          rw [hs] at sm cs FS e4
          have fa := and_mask (s : Int) (by omega) (by omega)
          obtain ⟨q, hq⟩ : ∃ x, s % 4294967296 = x := ⟨_, rfl⟩
          rw [hq] at FS
          rw [show (s : Int) % 4294967296 = (q : Int) by omega] at fa
          obtain ⟨z, hz⟩ : ∃ x, mlC RR a N i (k + 1) = x := ⟨_, rfl⟩
          rw [hz] at cs
          have HZ := Lib.hid hz
          have fb : (s : Int) / 4294967296 = (z : Int) := by omega
          rw [hl] at kw rp rf FS
          have HL := Lib.hid hl
          have l0 : (0 : Int) ≤ (l : Int) := Int.natCast_nonneg _
          have l1 : (l : Int) < 8 := by omega
          have k0 : (0 : Int) ≤ (k : Int) := Int.natCast_nonneg _
          have k1 : (k : Int) < 8 := by omega
          have g2 : decide ((l : Int) < 8) = true := by simp; omega
          have hm : 8 - (k + 1) < 8 - k := by omega
          clear hc hp hb hy hx hs hq hz hl sm cs cb pbd bbd abd hi hk
          go_upto_region 9 with fail
          go_quiet (fail)
          go_upto_region 10 with fail
          have T2 := Lib.hid (T.out.drews nq)
          have rf2 : (wr.drewN nq).frozen? ⟨w.heap.size + 1 + 1 + 1, l, none⟩ = false := rf
          have rp2 : (wr.drewN nq).cell? ⟨w.heap.size + 1 + 1 + 1, l, none⟩ = some (.int .u64 (p : Int)) := rp
          generalize wr.drewN nq = W2 at *
          go_wp2_with fail
          go_roundw
          case rel => exact ⟨k + 1, by have := HL.out; omega, by rw [HZ.out], by go_num, Lib.hid ((T2.out.set l q).congr fun j _ => by rw [FS.out]; rfl)⟩
          case measure => simp [intOf]; omega
        · have hk8 : k = 8 - i := by omega
          have g2 : decide (((i + k : Nat) : Int) < 8) = false := by simp; omega
          have T2 : Hid (MuB m n (d32 M) (d32 N) (d32 R2) w wr) := Lib.hid (T.out.congr fun j hj => by rw [hk8]; exact HE.out j hj)
          obtain ⟨l, hl⟩ : ∃ l, i + k = l := ⟨_, rfl⟩
          rw [hl] at kw g2
          clear hl T HE hk8 hk2
          go_wp2_with fail
          go_roundw
          case rel => exact ⟨i + 1, by omega, by go_num, by rw [HR2.out]; exact T2⟩
          case measure => simp [intOf]; omega
    · have g1 : decide ((i : Int) < 8) = false := by simp; omega
      have hi8 : i = 8 := by omega
      subst hi8
      rw [H0.out.1, HX.out.1] at R
      have ra := R.out.a.sign
      have rb := R.out.b.sign
      have RP := R.out.p
      have hq := HX.out.2
      go_upto_region 12 with fail
      refine wp_region_lit ?_
      refine wpList_val (v := ?_) rfl ?_ ?_
      rotate_left
      · (go_simp; (try (first | with_reducible rfl | (constructor <;> with_reducible rfl))))
      (try simp only [Act.put, nA, nB, nC])
      refine wpList_val (v := ?_) rfl ?_ ?_
      rotate_left
      · (go_simp; (try (first | with_reducible rfl | (constructor <;> with_reducible rfl))))
      (try simp only [Act.put, nA, nB, nC])
      refine wpList_val (v := ?_) rfl ?_ ?_
      rotate_left
      · (go_simp; (try (first | with_reducible rfl | (constructor <;> with_reducible rfl))))
      (try simp only [Act.put, nA, nB, nC])
      refine wpList_val (v := ?_) rfl ?_ ?_
      rotate_left
      · (go_simp; (try (first | with_reducible rfl | (constructor <;> with_reducible rfl))))
      (try simp only [Act.put, nA, nB, nC])
      refine wpList_val (v := ?_) rfl ?_ ?_
      rotate_left
      · (go_simp; (try rw [hq]); (try with_reducible rfl))
      (try simp only [Act.put, nA, nB, nC])
      refine wpList_val (v := ?_) rfl ?_ ?_
      rotate_left
      · refine Eq.trans (run_load_row 48 (.tmp 5) (by rfl) (w.heap.size + 1 + 1 + 1) (by rfl) _ _ _ _ RP Try.underlying48 rfl (iuv.trans (by rw [uv_size]))) ?_; with_reducible rfl
      (try simp only [Act.put, nA, nB, nC])
      refine wpList_step (fun K hK => ?_)
      go_simp
      (refine (MC.out _).mono ?_); rintro e w2 ⟨rfl, hb3⟩; have R3 := Lib.hid (R.out.down hb3); clear hb3
      (try dsimp only)
      (try simp only [Act.put, nA, nB, nC])
      refine hK _ _ ?_
      clear hK K
      refine wpList_done (w' := ?_) rfl ?_ ?_
      rotate_left
      · refine Eq.trans (run_store_rowc 50 (.tmp 4) (.tmp 50) (by rfl) (w.heap.size + 1 + 1) (by rfl) (by rfl) R3.out.r (by rw [bg_size, bg_size]) (oneCell_bg _ _) (ibg.trans (by rw [bg_size]))) ?_; with_reducible rfl
      (try simp only [Act.put, nA, nB, nC])
      refine wpList_nil ?_
      have r1 := R3.out.r.setRow (bg b (d32 X))
      have B1 : Below w.heap.size w (w2.setRow (w.heap.size + 1 + 1) (bg b (d32 X))) := below_row R3.out.below (by omega) _
      generalize w2.setRow (w.heap.size + 1 + 1) (bg b (d32 X)) = W2 at *
      go_wp2_with fail
      refine bodyPost_ret (results_cell_row Try.results12 _ _ (w.heap.size + 1 + 1) 50 (bg b (d32 X)) (0, 0) _ rfl r1 Try.underlying50 rfl (ibg.trans (by rw [bg_size]))) rfl ⟨rfl, B1⟩
end Go.Proofs.Ytpbgglkopfjagaa
/- Contracts of the reference's sizes (5): Pow by 16, Neg, Add of unlike signs, Cmp. -/
namespace Go.Proofs.Ytpbgglkopfjagaa
open Go.RowKit
set_option maxRecDepth 100000
/-- A Big and the result's block. -/
structure NgB (m : Bool) (f : Nat → Nat) (w wr : World) : Prop where
  below : Below w.heap.size w wr
  a : Row wr w.heap.size 50 (bg m f)
  r : Row wr (w.heap.size + 1) 50 (bg false (fun _ => 0))
theorem NgB.down {m : Bool} {f : Nat → Nat} {w wr w' : World} (s : NgB m f w wr) (k : Below wr.heap.size wr w') : NgB m f w w' := ⟨s.below.trans (k.mono s.below.size), s.a.below k, s.r.below k⟩
structure PwB (f : Nat → Nat) (w wr : World) : Prop where
  below : Below w.heap.size w wr
  r : Row wr w.heap.size 50 (bg false (fun _ => 0))
  p : Row wr (w.heap.size + 1) 48 (uv f)
theorem pow16_uv : uv (updN (fun _ => 0) 0 65536) = uv (d32 65536) := uv_congr fun i _ => by
  rw [d32_low 65536 (by decide)]
  unfold updN
  split
  · rfl
  · split <;> rfl
set_option maxHeartbeats 4000000 in
theorem bpow16_any (w : World) :
    Calls Try.prog 13 #[.int .i64 16] w fun e w' => e = .returned (.agg (bg false (d32 65536))) ∧ Below w.heap.size w w' := by
  have S0 := Lib.hid (show PwB (fun _ => 0) w ((w.alloc (.cells #[.bool false, .int .u64 0, .int .u64 0, .int .u64 0, .int .u64 0, .int .u64 0, .int .u64 0, .int .u64 0, .int .u64 0] 50)).alloc (.cells #[.int .u64 0, .int .u64 0, .int .u64 0, .int .u64 0, .int .u64 0, .int .u64 0, .int .u64 0, .int .u64 0] 48)) from ⟨by (repeat (first | with_reducible exact Below.refl _ _ | with_reducible apply Below.drew | (with_reducible refine below_drewN ?_ _) | (with_reducible refine Below.alloc ?_ (by (try simp) <;> omega) _) | (with_reducible refine Below.setCell ?_ (by (try simp) <;> omega) _))), by rw [zbg]; exact (Row.new w _ _).alloc _, by rw [zuv]; exact Row.new1 w _ _ _⟩)
  go_enter Try.func13, Try.ntmps13
  go_upto_region 2 with fail
  generalize (w.alloc (.cells #[.bool false, .int .u64 0, .int .u64 0, .int .u64 0, .int .u64 0, .int .u64 0, .int .u64 0, .int .u64 0, .int .u64 0] 50)).alloc (.cells #[.int .u64 0, .int .u64 0, .int .u64 0, .int .u64 0, .int .u64 0, .int .u64 0, .int .u64 0, .int .u64 0] 48) = W0 at *
  have rp := S0.out.p.part (i := 0) (by decide)
  have rf := S0.out.p.free 0
  have P1 := S0.out.p.setU 0 65536
  rw [pow16_uv] at P1
  have P2 := Lib.hid P1
  have R1 := Lib.hid (S0.out.r.other (a := ⟨w.heap.size + 1, 0, none⟩) (by simp) (.int .u64 ((65536 : Nat) : Int)))
  have B1 := Lib.hid (S0.out.below.setCell (p := ⟨w.heap.size + 1, 0, none⟩) (by simp) (.int .u64 ((65536 : Nat) : Int)))
  rw [show ((65536 : Nat) : Int) = 65536 from rfl] at P2 R1 B1
  clear P1 S0
  go_upto_region 3 with fail
  generalize W0.setCell ⟨w.heap.size + 1, 0, none⟩ (.int .u64 65536) = W1 at *
  have RP := P2.out
  refine wp_region_lit ?_
  refine wpList_val (v := ?_) rfl ?_ ?_
  rotate_left
  · refine Eq.trans (run_load_row 48 (.tmp 3) (by rfl) (w.heap.size + 1) (by rfl) _ _ _ _ RP Try.underlying48 rfl (iuv.trans (by rw [uv_size]))) ?_; with_reducible rfl
  (try simp only [Act.put, nA, nB, nC])
  refine wpList_val (v := ?_) rfl ?_ ?_
  rotate_left
  · refine Eq.trans (run_build_bg (.const (.bool false)) (.tmp 11) (by rfl) (by rfl) (by rfl)) ?_; with_reducible rfl
  (try simp only [Act.put, nA, nB, nC])
  refine wpList_done (w' := ?_) rfl ?_ ?_
  rotate_left
  · refine Eq.trans (run_store_rowc 50 (.tmp 2) (.tmp 12) (by rfl) w.heap.size (by rfl) (by rfl) R1.out (by rw [bg_size, bg_size]) (oneCell_bg _ _) (ibg.trans (by rw [bg_size]))) ?_; with_reducible rfl
  (try simp only [Act.put, nA, nB, nC])
  refine wpList_nil ?_
  have r1 := R1.out.setRow (bg false (d32 65536))
  have B2 : Below w.heap.size w (W1.setRow w.heap.size (bg false (d32 65536))) := below_row B1.out (Nat.le_refl _) _
  generalize W1.setRow w.heap.size (bg false (d32 65536)) = W2 at *
  go_wp2_with fail
  refine bodyPost_ret (results_cell_row Try.results13 _ _ w.heap.size 50 (bg false (d32 65536)) (0, 0) _ rfl r1 Try.underlying50 rfl (ibg.trans (by rw [bg_size]))) rfl ⟨rfl, B2⟩
set_option maxHeartbeats 4000000 in
theorem bneg_any (m : Bool) (N : Nat) (w : World) (hN : N < 115792089237316195423570985008687907853269984665640564039457584007913129639936) :
    Calls Try.prog 29 #[.agg (bg m (d32 N))] w fun e w' => e = .returned (.agg (bg (!m && !decide (N = 0)) (d32 N))) ∧ Below w.heap.size w w' := by
  have S0 := Lib.hid (show NgB m (d32 N) w ((w.alloc (.cells (bg m (d32 N)) 50)).alloc (.cells #[.bool false, .int .u64 0, .int .u64 0, .int .u64 0, .int .u64 0, .int .u64 0, .int .u64 0, .int .u64 0, .int .u64 0] 50)) from ⟨by (repeat (first | with_reducible exact Below.refl _ _ | with_reducible apply Below.drew | (with_reducible refine below_drewN ?_ _) | (with_reducible refine Below.alloc ?_ (by (try simp) <;> omega) _) | (with_reducible refine Below.setCell ?_ (by (try simp) <;> omega) _))), (Row.new w _ _).alloc _, by rw [zbg]; exact Row.new1 w _ _ _⟩)
  have MC := fun (x : World) => bmade_any (!m) (d32 N) x
  rw [zerB_d32 _ hN] at MC
  have MC := Lib.hid MC
  obtain ⟨b, hb⟩ : ∃ x, (!m && !decide (N = 0)) = x := ⟨_, rfl⟩
  rw [hb] at MC ⊢
  clear hb hN
  go_enter Try.func29, Try.ntmps29
  go_upto_region 1 with fail
  generalize (w.alloc (.cells (bg m (d32 N)) 50)).alloc (.cells #[.bool false, .int .u64 0, .int .u64 0, .int .u64 0, .int .u64 0, .int .u64 0, .int .u64 0, .int .u64 0, .int .u64 0] 50) = W0 at *
  have ra := S0.out.a.sign
  have RA := S0.out.a
  refine wp_region_lit ?_
  refine wpList_val (v := ?_) rfl ?_ ?_
  rotate_left
  · (go_simp; (try (first | with_reducible rfl | (constructor <;> with_reducible rfl))))
  (try simp only [Act.put, nA, nB, nC])
  refine wpList_val (v := ?_) rfl ?_ ?_
  rotate_left
  · (go_simp; (try (first | with_reducible rfl | (constructor <;> with_reducible rfl))))
  (try simp only [Act.put, nA, nB, nC])
  refine wpList_val (v := ?_) rfl ?_ ?_
  rotate_left
  · (go_simp; (try (first | with_reducible rfl | (constructor <;> with_reducible rfl))))
  (try simp only [Act.put, nA, nB, nC])
  refine wpList_val (v := ?_) rfl ?_ ?_
  rotate_left
  · (go_simp; (try (first | with_reducible rfl | (constructor <;> with_reducible rfl))))
  (try simp only [Act.put, nA, nB, nC])
  refine wpList_val (v := ?_) rfl ?_ ?_
  rotate_left
  · refine Eq.trans (run_load_parts (.tmp 6) (by rfl) w.heap.size (by rfl) RA) ?_; with_reducible rfl
  (try simp only [Act.put, nA, nB, nC])
  refine wpList_step (fun K hK => ?_)
  go_simp
  (refine (MC.out _).mono ?_); rintro e w2 ⟨rfl, hb3⟩; have R3 := Lib.hid (S0.out.down hb3); clear hb3
  (try dsimp only)
  (try simp only [Act.put, nA, nB, nC])
  refine hK _ _ ?_
  clear hK K
  refine wpList_done (w' := ?_) rfl ?_ ?_
  rotate_left
  · refine Eq.trans (run_store_rowc 50 (.tmp 2) (.tmp 8) (by rfl) (w.heap.size + 1) (by rfl) (by rfl) R3.out.r (by rw [bg_size, bg_size]) (oneCell_bg _ _) (ibg.trans (by rw [bg_size]))) ?_; with_reducible rfl
  (try simp only [Act.put, nA, nB, nC])
  refine wpList_nil ?_
  have r1 := R3.out.r.setRow (bg b (d32 N))
  have B1 : Below w.heap.size w (w2.setRow (w.heap.size + 1) (bg b (d32 N))) := below_row R3.out.below (by omega) _
  generalize w2.setRow (w.heap.size + 1) (bg b (d32 N)) = W2 at *
  go_wp2_with fail
  refine bodyPost_ret (results_cell_row Try.results29 _ _ (w.heap.size + 1) 50 (bg b (d32 N)) (0, 0) _ rfl r1 Try.underlying50 rfl (ibg.trans (by rw [bg_size]))) rfl ⟨rfl, B1⟩
/-- The blocks of 'Add'. -/
structure AdB (M N : Nat) (w wr : World) : Prop where
  below : Below w.heap.size w wr
  a : Row wr w.heap.size 50 (bg false (d32 M))
  b : Row wr (w.heap.size + 1) 50 (bg true (d32 N))
  r : Row wr (w.heap.size + 1 + 1) 50 (bg false (fun _ => 0))
theorem AdB.down {M N : Nat} {w wr w' : World} (s : AdB M N w wr) (k : Below wr.heap.size wr w') : AdB M N w w' := ⟨s.below.trans (k.mono s.below.size), s.a.below k, s.b.below k, s.r.below k⟩
theorem AdB.drew {M N : Nat} {w wr : World} (s : AdB M N w wr) : AdB M N w wr.drew := s.down (Below.drew (Below.refl _ _))
set_option maxHeartbeats 8000000 in
theorem badd_any (M N : Nat) (w : World) (hM : M < 115792089237316195423570985008687907853269984665640564039457584007913129639936) (hN : N < 115792089237316195423570985008687907853269984665640564039457584007913129639936) :
    Calls Try.prog 28 #[.agg (bg false (d32 M)), .agg (bg true (d32 N))] w fun e w' => e = .returned (.agg (bg (decide (M < N)) (d32 (if M < N then N - M else M - N)))) ∧ Below w.heap.size w w' := by
  have S0 := Lib.hid (show AdB M N w (((w.alloc (.cells (bg false (d32 M)) 50)).alloc (.cells (bg true (d32 N)) 50)).alloc (.cells #[.bool false, .int .u64 0, .int .u64 0, .int .u64 0, .int .u64 0, .int .u64 0, .int .u64 0, .int .u64 0, .int .u64 0] 50)) from ⟨by (repeat (first | with_reducible exact Below.refl _ _ | with_reducible apply Below.drew | (with_reducible refine below_drewN ?_ _) | (with_reducible refine Below.alloc ?_ (by (try simp) <;> omega) _) | (with_reducible refine Below.setCell ?_ (by (try simp) <;> omega) _))), ((Row.new w _ _).alloc _).alloc _, (Row.new1 w _ _ _).alloc _, by rw [zbg]; exact Row.new2 w _ _ _ _⟩)
  have LC := Lib.hid (fun (x : World) => bless_any M N x hM hN)
  by_cases h : M < N
  · have MI := Lib.hid (fun (x : World) => bminus_any N M x (by omega))
    have MC := fun (x : World) => bmade_any true (d32 (N - M)) x
    rw [zerB_d32 _ (by omega)] at MC
    rw [show (true && !decide (N - M = 0)) = true by have : N - M ≠ 0 := by omega
                                                     simp [this]] at MC
    have MC := Lib.hid MC
    rw [if_pos h, show decide (M < N) = true by simpa using h] at *
    obtain ⟨D, hD⟩ : ∃ x, N - M = x := ⟨_, rfl⟩
    rw [hD] at MI MC ⊢
    clear hD h hM hN
    go_enter Try.func28, Try.ntmps28
    go_upto_region 1 with fail
    generalize ((w.alloc (.cells (bg false (d32 M)) 50)).alloc (.cells (bg true (d32 N)) 50)).alloc (.cells #[.bool false, .int .u64 0, .int .u64 0, .int .u64 0, .int .u64 0, .int .u64 0, .int .u64 0, .int .u64 0, .int .u64 0] 50) = W0 at *
    have ra := S0.out.a.sign
    have rb := S0.out.b.sign
    have RA := S0.out.a
    have RB := S0.out.b
    go_upto_region 3 with fail
    refine wp_region_lit ?_
    refine wpList_val (v := ?_) rfl ?_ ?_
    rotate_left
    · (go_simp; (try (first | with_reducible rfl | (constructor <;> with_reducible rfl))))
    (try simp only [Act.put, nA, nB, nC])
    refine wpList_val (v := ?_) rfl ?_ ?_
    rotate_left
    · refine Eq.trans (run_load_parts (.tmp 18) (by rfl) w.heap.size (by rfl) RA) ?_; with_reducible rfl
    (try simp only [Act.put, nA, nB, nC])
    refine wpList_val (v := ?_) rfl ?_ ?_
    rotate_left
    · (go_simp; (try (first | with_reducible rfl | (constructor <;> with_reducible rfl))))
    (try simp only [Act.put, nA, nB, nC])
    refine wpList_val (v := ?_) rfl ?_ ?_
    rotate_left
    · refine Eq.trans (run_load_parts (.tmp 20) (by rfl) (w.heap.size + 1) (by rfl) RB) ?_; with_reducible rfl
    (try simp only [Act.put, nA, nB, nC])
    refine wpList_step (fun K hK => ?_)
    go_simp
    (refine (LC.out _).mono ?_); rintro e w1 ⟨rfl, hb3⟩; have S1 := Lib.hid (S0.out.down hb3); clear hb3
    (try dsimp only)
    (try simp only [Act.put, nA, nB, nC])
    refine hK _ _ ?_
    clear hK K
    refine wpList_nil ?_
    go_upto_region 4 with fail
    refine wp_region_M (fun w' => Row w' w.heap.size 50 (bg false (d32 M)) ∧ Row w' (w.heap.size + 1) 50 (bg true (d32 N))) 8 (by kernel_rfl) ?_ (fun hHeld => ?_)
    · exact ⟨S1.out.drew.a, S1.out.drew.b⟩
    refine wpAnyM_take 0 (v := ?_) rfl (by kernel_rfl) (fun _ _ _ h => h) (Or.inl ⟨by rfl, ?_⟩) (by assumption) ?_
    rotate_left
    · (intro wx hSw; (try dsimp only at hSw); go_simp; (try with_reducible rfl))
    (try simp only [Act.put, nA, nB, nC])
    refine wpAnyM_take 1 (v := ?_) rfl (by kernel_rfl) (fun _ _ _ h => h) (Or.inl ⟨by rfl, ?_⟩) (by assumption) ?_
    rotate_left
    · (intro wx hSw; have hs := hSw.2.sign; go_simp; (try with_reducible rfl))
    (try simp only [Act.put, nA, nB, nC])
    refine wpAnyM_take 2 (v := ?_) rfl (by kernel_rfl) (fun _ _ _ h => h) (Or.inl ⟨by rfl, ?_⟩) (by assumption) ?_
    rotate_left
    · (intro wx hSw; (try dsimp only at hSw); go_simp; (try with_reducible rfl))
    (try simp only [Act.put, nA, nB, nC])
    refine wpAnyM_take 3 (v := ?_) rfl (by kernel_rfl) (fun _ _ _ h => h) (Or.inl ⟨by rfl, ?_⟩) (by assumption) ?_
    rotate_left
    · (intro wx hSw; refine Eq.trans (run_load_parts (.tmp 25) (by rfl) (w.heap.size + 1) (by rfl) hSw.2) ?_; with_reducible rfl)
    (try simp only [Act.put, nA, nB, nC])
    refine wpAnyM_take 4 (v := ?_) rfl (by kernel_rfl) (fun _ _ _ h => h) (Or.inl ⟨by rfl, ?_⟩) (by assumption) ?_
    rotate_left
    · (intro wx hSw; (try dsimp only at hSw); go_simp; (try with_reducible rfl))
    (try simp only [Act.put, nA, nB, nC])
    refine wpAnyM_take 5 (v := ?_) rfl (by kernel_rfl) (fun _ _ _ h => h) (Or.inl ⟨by rfl, ?_⟩) (by assumption) ?_
    rotate_left
    · (intro wx hSw; refine Eq.trans (run_load_parts (.tmp 27) (by rfl) w.heap.size (by rfl) hSw.1) ?_; with_reducible rfl)
    (try simp only [Act.put, nA, nB, nC])
    refine wpAnyM_oneS 6 rfl (by kernel_rfl) (fun K hK => ?_)
    go_simp
    (refine (MI.out _).mono ?_); rintro e w2 ⟨rfl, hb2⟩; have S2 := Lib.hid (S1.out.drew.down hb2); clear hb2
    (try dsimp only)
    (try simp only [Act.put, nA, nB, nC])
    clear hHeld
    refine hK.out _ _ ?_ (fun hHeld => ?_)
    · exact ⟨S2.out.a, S2.out.b⟩
    clear hK K
    (try simp only [Act.put, nA, nB, nC])
    refine wpAnyM_oneS 7 rfl (by kernel_rfl) (fun K hK => ?_)
    go_simp
    (refine (MC.out _).mono ?_); rintro e w3 ⟨rfl, hb3⟩; have S3 := Lib.hid (S2.out.down hb3); clear hb3
    (try dsimp only)
    (try simp only [Act.put, nA, nB, nC])
    clear hHeld
    refine hK.out _ _ ?_ (fun hHeld => ?_)
    · exact ⟨S3.out.a, S3.out.b⟩
    clear hK K
    (try simp only [Act.put, nA, nB, nC])
    refine wpAnyM_one 8 rfl (by kernel_rfl) (fun K hK => ?_)
    go_simp; rw [if_pos (bg_size _ _), run_storeCells_rowc _ S3.out.r (by rw [bg_size, bg_size]) (oneCell_bg _ _)]; go_simp
    refine hK.out _ _ (.inl (by kernel_rfl)) (fun _ => ?_)
    clear hK K
    (try simp only [Act.put, nA, nB, nC])
    refine wpAnyM_done (by kernel_rfl) ?_ _
    have r1 := S3.out.r.setRow (bg true (d32 D))
    have B1 : Below w.heap.size w (w3.setRow (w.heap.size + 1 + 1) (bg true (d32 D))) := below_row S3.out.below (by omega) _
    generalize w3.setRow (w.heap.size + 1 + 1) (bg true (d32 D)) = W2 at *
    go_wp2_with fail
    refine bodyPost_ret (results_cell_row Try.results28 _ _ (w.heap.size + 1 + 1) 50 (bg true (d32 D)) (0, 0) _ rfl r1 Try.underlying50 rfl (ibg.trans (by rw [bg_size]))) rfl ⟨rfl, B1⟩
  · have MI := Lib.hid (fun (x : World) => bminus_any M N x (by omega))
    have MC := fun (x : World) => bmade_any false (d32 (M - N)) x
    rw [Bool.false_and] at MC
    have MC := Lib.hid MC
    rw [if_neg h, show decide (M < N) = false by simpa using h] at *
    obtain ⟨D, hD⟩ : ∃ x, M - N = x := ⟨_, rfl⟩
    rw [hD] at MI MC ⊢
    clear hD h hM hN
    go_enter Try.func28, Try.ntmps28
    go_upto_region 1 with fail
    generalize ((w.alloc (.cells (bg false (d32 M)) 50)).alloc (.cells (bg true (d32 N)) 50)).alloc (.cells #[.bool false, .int .u64 0, .int .u64 0, .int .u64 0, .int .u64 0, .int .u64 0, .int .u64 0, .int .u64 0, .int .u64 0] 50) = W0 at *
    have ra := S0.out.a.sign
    have rb := S0.out.b.sign
    have RA := S0.out.a
    have RB := S0.out.b
    go_upto_region 3 with fail
    refine wp_region_lit ?_
    refine wpList_val (v := ?_) rfl ?_ ?_
    rotate_left
    · (go_simp; (try (first | with_reducible rfl | (constructor <;> with_reducible rfl))))
    (try simp only [Act.put, nA, nB, nC])
    refine wpList_val (v := ?_) rfl ?_ ?_
    rotate_left
    · refine Eq.trans (run_load_parts (.tmp 18) (by rfl) w.heap.size (by rfl) RA) ?_; with_reducible rfl
    (try simp only [Act.put, nA, nB, nC])
    refine wpList_val (v := ?_) rfl ?_ ?_
    rotate_left
    · (go_simp; (try (first | with_reducible rfl | (constructor <;> with_reducible rfl))))
    (try simp only [Act.put, nA, nB, nC])
    refine wpList_val (v := ?_) rfl ?_ ?_
    rotate_left
    · refine Eq.trans (run_load_parts (.tmp 20) (by rfl) (w.heap.size + 1) (by rfl) RB) ?_; with_reducible rfl
    (try simp only [Act.put, nA, nB, nC])
    refine wpList_step (fun K hK => ?_)
    go_simp
    (refine (LC.out _).mono ?_); rintro e w1 ⟨rfl, hb3⟩; have S1 := Lib.hid (S0.out.down hb3); clear hb3
    (try dsimp only)
    (try simp only [Act.put, nA, nB, nC])
    refine hK _ _ ?_
    clear hK K
    refine wpList_nil ?_
    go_upto_region 5 with fail
    refine wp_region_M (fun w' => Row w' w.heap.size 50 (bg false (d32 M)) ∧ Row w' (w.heap.size + 1) 50 (bg true (d32 N))) 8 (by kernel_rfl) ?_ (fun hHeld => ?_)
    · exact ⟨S1.out.drew.a, S1.out.drew.b⟩
    refine wpAnyM_take 0 (v := ?_) rfl (by kernel_rfl) (fun _ _ _ h => h) (Or.inl ⟨by rfl, ?_⟩) (by assumption) ?_
    rotate_left
    · (intro wx hSw; (try dsimp only at hSw); go_simp; (try with_reducible rfl))
    (try simp only [Act.put, nA, nB, nC])
    refine wpAnyM_take 1 (v := ?_) rfl (by kernel_rfl) (fun _ _ _ h => h) (Or.inl ⟨by rfl, ?_⟩) (by assumption) ?_
    rotate_left
    · (intro wx hSw; have hs := hSw.1.sign; go_simp; (try with_reducible rfl))
    (try simp only [Act.put, nA, nB, nC])
    refine wpAnyM_take 2 (v := ?_) rfl (by kernel_rfl) (fun _ _ _ h => h) (Or.inl ⟨by rfl, ?_⟩) (by assumption) ?_
    rotate_left
    · (intro wx hSw; (try dsimp only at hSw); go_simp; (try with_reducible rfl))
    (try simp only [Act.put, nA, nB, nC])
    refine wpAnyM_take 3 (v := ?_) rfl (by kernel_rfl) (fun _ _ _ h => h) (Or.inl ⟨by rfl, ?_⟩) (by assumption) ?_
    rotate_left
    · (intro wx hSw; refine Eq.trans (run_load_parts (.tmp 33) (by rfl) w.heap.size (by rfl) hSw.1) ?_; with_reducible rfl)
    (try simp only [Act.put, nA, nB, nC])
    refine wpAnyM_take 4 (v := ?_) rfl (by kernel_rfl) (fun _ _ _ h => h) (Or.inl ⟨by rfl, ?_⟩) (by assumption) ?_
    rotate_left
    · (intro wx hSw; (try dsimp only at hSw); go_simp; (try with_reducible rfl))
    (try simp only [Act.put, nA, nB, nC])
    refine wpAnyM_take 5 (v := ?_) rfl (by kernel_rfl) (fun _ _ _ h => h) (Or.inl ⟨by rfl, ?_⟩) (by assumption) ?_
    rotate_left
    · (intro wx hSw; refine Eq.trans (run_load_parts (.tmp 35) (by rfl) (w.heap.size + 1) (by rfl) hSw.2) ?_; with_reducible rfl)
    (try simp only [Act.put, nA, nB, nC])
    refine wpAnyM_oneS 6 rfl (by kernel_rfl) (fun K hK => ?_)
    go_simp
    (refine (MI.out _).mono ?_); rintro e w2 ⟨rfl, hb2⟩; have S2 := Lib.hid (S1.out.drew.down hb2); clear hb2
    (try dsimp only)
    (try simp only [Act.put, nA, nB, nC])
    clear hHeld
    refine hK.out _ _ ?_ (fun hHeld => ?_)
    · exact ⟨S2.out.a, S2.out.b⟩
    clear hK K
    (try simp only [Act.put, nA, nB, nC])
    refine wpAnyM_oneS 7 rfl (by kernel_rfl) (fun K hK => ?_)
    go_simp
    (refine (MC.out _).mono ?_); rintro e w3 ⟨rfl, hb3⟩; have S3 := Lib.hid (S2.out.down hb3); clear hb3
    (try dsimp only)
    (try simp only [Act.put, nA, nB, nC])
    clear hHeld
    refine hK.out _ _ ?_ (fun hHeld => ?_)
    · exact ⟨S3.out.a, S3.out.b⟩
    clear hK K
    (try simp only [Act.put, nA, nB, nC])
    refine wpAnyM_one 8 rfl (by kernel_rfl) (fun K hK => ?_)
    go_simp; rw [if_pos (bg_size _ _), run_storeCells_rowc _ S3.out.r (by rw [bg_size, bg_size]) (oneCell_bg _ _)]; go_simp
    refine hK.out _ _ (.inl (by kernel_rfl)) (fun _ => ?_)
    clear hK K
    (try simp only [Act.put, nA, nB, nC])
    refine wpAnyM_done (by kernel_rfl) ?_ _
    have r1 := S3.out.r.setRow (bg false (d32 D))
    have B1 : Below w.heap.size w (w3.setRow (w.heap.size + 1 + 1) (bg false (d32 D))) := below_row S3.out.below (by omega) _
    generalize w3.setRow (w.heap.size + 1 + 1) (bg false (d32 D)) = W2 at *
    go_wp2_with fail
    refine bodyPost_ret (results_cell_row Try.results28 _ _ (w.heap.size + 1 + 1) 50 (bg false (d32 D)) (0, 0) _ rfl r1 Try.underlying50 rfl (ibg.trans (by rw [bg_size]))) rfl ⟨rfl, B1⟩
end Go.Proofs.Ytpbgglkopfjagaa
/- Contracts of the reference's sizes (6): Cmp. -/
namespace Go.Proofs.Ytpbgglkopfjagaa
open Go.RowKit
set_option maxRecDepth 100000
/-- The two numbers of 'Cmp'. -/
structure CmB (M N : Nat) (w wr : World) : Prop where
  below : Below w.heap.size w wr
  a : Row wr w.heap.size 50 (bg false (d32 M))
  b : Row wr (w.heap.size + 1) 50 (bg false (d32 N))
theorem CmB.down {M N : Nat} {w wr w' : World} (s : CmB M N w wr) (k : Below wr.heap.size wr w') : CmB M N w w' := ⟨s.below.trans (k.mono s.below.size), s.a.below k, s.b.below k⟩
theorem CmB.drew {M N : Nat} {w wr : World} (s : CmB M N w wr) : CmB M N w wr.drew := s.down (Below.drew (Below.refl _ _))
theorem CmB.alloc {M N : Nat} {w wr : World} (s : CmB M N w wr) (o : Obj) : CmB M N w (wr.alloc o) := s.down ((Below.refl _ _).alloc (Nat.le_refl _) o)
theorem cm_new {M N : Nat} {w wr : World} (s : CmB M N w wr) (d : Nat) (h : wr.heap.size = d) :
    Row (wr.alloc (.cells #[.bool false, .int .u64 0, .int .u64 0, .int .u64 0, .int .u64 0, .int .u64 0, .int .u64 0, .int .u64 0, .int .u64 0] 50)) d 50 (bg false (fun _ => 0)) ∧ w.heap.size ≤ d := by
  subst h
  exact ⟨by rw [zbg]; exact Row.new _ _ _, s.below.size⟩
set_option maxHeartbeats 8000000 in
theorem bcmp_any (M N : Nat) (w : World) (hM : M < 115792089237316195423570985008687907853269984665640564039457584007913129639936) (hN : N < 115792089237316195423570985008687907853269984665640564039457584007913129639936) (h0 : N ≠ 0) :
    Calls Try.prog 11 #[.agg (bg false (d32 M)), .agg (bg false (d32 N))] w fun e w' => e = .returned (.int .i64 (if M = N then 0 else if M < N then -1 else 1)) ∧ Below w.heap.size w w' := by
  have S0 := Lib.hid (show CmB M N w ((w.alloc (.cells (bg false (d32 M)) 50)).alloc (.cells (bg false (d32 N)) 50)) from ⟨by (repeat (first | with_reducible exact Below.refl _ _ | with_reducible apply Below.drew | (with_reducible refine below_drewN ?_ _) | (with_reducible refine Below.alloc ?_ (by (try simp) <;> omega) _) | (with_reducible refine Below.setCell ?_ (by (try simp) <;> omega) _))), (Row.new w _ _).alloc _, Row.new1 w _ _ _⟩)
  have NC := fun (x : World) => bneg_any false N x hN
  rw [show (!false && !decide (N = 0)) = true by simp [h0]] at NC
  have NC := Lib.hid NC
  have AC := fun (x : World) => badd_any M N x hM hN
  have hz : (if M < N then N - M else M - N) < 115792089237316195423570985008687907853269984665640564039457584007913129639936 := by split <;> omega
  have ZC := fun (x : World) => bzero_any (d32 (if M < N then N - M else M - N)) x
  rw [zerB_d32 _ hz] at ZC
  obtain ⟨r, hr⟩ : ∃ r : Int, (if M = N then 0 else if M < N then -1 else 1) = r := ⟨_, rfl⟩
  have E0 : (if M < N then N - M else M - N) = 0 → r = 0 := by intro h; rw [← hr]; split at h <;> (rw [if_pos (by omega)])
  have E1 : (if M < N then N - M else M - N) ≠ 0 → decide (M < N) = true → r = -1 := by
    intro h1 h2; rw [decide_eq_true_eq] at h2; rw [← hr, if_neg (by omega), if_pos h2]
  have E2 : (if M < N then N - M else M - N) ≠ 0 → decide (M < N) = false → r = 1 := by
    intro h1 h2; rw [decide_eq_false_iff_not] at h2; rw [if_neg h2] at h1; rw [← hr, if_neg (by omega), if_neg h2]
  rw [hr]
  obtain ⟨D, hD⟩ : ∃ x, (if M < N then N - M else M - N) = x := ⟨_, rfl⟩
  obtain ⟨B, hB⟩ : ∃ x, decide (M < N) = x := ⟨_, rfl⟩
  rw [hD] at AC ZC E0 E1 E2
  rw [hB] at AC E1 E2
  obtain ⟨z, hz0⟩ : ∃ x, decide (D = 0) = x := ⟨_, rfl⟩
  rw [hz0] at ZC
  have E0 : z = true → r = 0 := fun h => E0 (by rw [h] at hz0; simpa using hz0)
  have E1 : z = false → B = true → r = -1 := fun h => E1 (by rw [h] at hz0; simpa using hz0)
  have E2 : z = false → B = false → r = 1 := fun h => E2 (by rw [h] at hz0; simpa using hz0)
  have AC := Lib.hid AC
  have ZC := Lib.hid ZC
  have E := Lib.hid (And.intro E0 (And.intro E1 E2))
  clear hz0 hD hB hr E0 E1 E2 hz hM hN h0
  go_enter Try.func11, Try.ntmps11
  go_upto_region 1 with fail
  generalize (w.alloc (.cells (bg false (d32 M)) 50)).alloc (.cells (bg false (d32 N)) 50) = W0 at *
  have HS := Lib.hid S0.out.drew
  clear S0
  go_cut [5] from 6 to 9 (fun s5 wx => ∃ d, s5 = .pointer (some ⟨d, 0, none⟩) ∧ Hid (Row wx d 50 (bg B (d32 D)) ∧ Below w.heap.size w wx))
  case first =>
    refine wp_region_M (fun w' => Row w' w.heap.size 50 (bg false (d32 M)) ∧ Row w' (w.heap.size + 1) 50 (bg false (d32 N))) 5 (by kernel_rfl) ?_ (fun hHeld => ?_)
    · exact ⟨HS.out.a, HS.out.b⟩
    refine wpAnyM_take 0 (v := ?_) rfl (by kernel_rfl) (fun _ _ _ h => h) (Or.inl ⟨by rfl, ?_⟩) (by assumption) ?_
    rotate_left
    · (intro wx hSw; refine Eq.trans (run_load_row 50 (.tmp 2) (by rfl) w.heap.size (by rfl) _ _ _ _ hSw.1 Try.underlying50 rfl (ibg.trans (by rw [bg_size]))) ?_; with_reducible rfl)
    (try simp only [Act.put, nA, nB, nC])
    refine wpAnyM_take 1 (v := ?_) rfl (by kernel_rfl) (fun _ _ _ h => h) (Or.inl ⟨by rfl, ?_⟩) (by assumption) ?_
    rotate_left
    · (intro wx hSw; refine Eq.trans (run_load_row 50 (.tmp 3) (by rfl) (w.heap.size + 1) (by rfl) _ _ _ _ hSw.2 Try.underlying50 rfl (ibg.trans (by rw [bg_size]))) ?_; with_reducible rfl)
    (try simp only [Act.put, nA, nB, nC])
    refine wpAnyM_twoS 2 4 rfl rfl (by kernel_rfl) (fun K hK => ?_) (fun K hK => ?_)
    · go_simp
      (refine (NC.out _).mono ?_); rintro e w2 ⟨rfl, hb2⟩; have HS2 := Lib.hid (HS.out.down hb2); clear HS; have HS := HS2; clear HS2; (try (have HA2 := Lib.hid (And.intro (HA.out.1.below hb2) HA.out.2); clear HA; have HA := HA2; clear HA2)); clear hb2
      (try dsimp only)
      (try simp only [Act.put, nA, nB, nC])
      clear hHeld
      refine hK.out _ _ ?_ (fun hHeld => ?_)
      · exact ⟨HS.out.a, HS.out.b⟩
      clear hK K
      (try simp only [Act.put, nA, nB, nC])
      refine wpAnyM_twoS 3 4 rfl rfl (by kernel_rfl) (fun K hK => ?_) (fun K hK => ?_)
      · go_simp
        (refine (AC.out _).mono ?_); rintro e w3 ⟨rfl, hb3⟩; have HS2 := Lib.hid (HS.out.down hb3); clear HS; have HS := HS2; clear HS2; (try (have HA2 := Lib.hid (And.intro (HA.out.1.below hb3) HA.out.2); clear HA; have HA := HA2; clear HA2)); clear hb3
        (try dsimp only)
        (try simp only [Act.put, nA, nB, nC])
        clear hHeld
        refine hK.out _ _ ?_ (fun hHeld => ?_)
        · exact ⟨HS.out.a, HS.out.b⟩
        clear hK K
        (try simp only [Act.put, nA, nB, nC])
        refine wpAnyM_oneS 4 rfl (by kernel_rfl) (fun K hK => ?_)
        go_simp; have HA := Lib.hid (cm_new HS.out _ (by first | (simp; rfl) | rfl)); have HS2 := Lib.hid (HS.out.alloc (.cells #[.bool false, .int .u64 0, .int .u64 0, .int .u64 0, .int .u64 0, .int .u64 0, .int .u64 0, .int .u64 0, .int .u64 0] 50)); clear HS; have HS := HS2; clear HS2
        clear hHeld
        refine hK.out _ _ ?_ (fun hHeld => ?_)
        · exact ⟨HS.out.a, HS.out.b⟩
        clear hK K
        (try simp only [Act.put, nA, nB, nC])
        refine wpAnyM_one 5 rfl (by kernel_rfl) (fun K hK => ?_)
        refine if_pos_of rfl ?_; refine wp_of_run (run_store_rowc 50 (.tmp 5) (.tmp 9) rfl _ rfl rfl HA.out.1 (by rw [bg_size, bg_size]) (oneCell_bg _ _) (ibg.trans (by rw [bg_size]))) ?_
        refine hK.out _ _ (.inl (by kernel_rfl)) (fun _ => ?_)
        clear hK K
        (try simp only [Act.put, nA, nB, nC])
        refine wpAnyM_done (by kernel_rfl) ?_ _
        (go_wp2_with fail; go_meet; exact ⟨_, rfl, Lib.hid ⟨HA.out.1.setRow _, below_row HS.out.below HA.out.2 _⟩⟩)
      · go_simp; have HA := Lib.hid (cm_new HS.out _ (by first | (simp; rfl) | rfl)); have HS2 := Lib.hid (HS.out.alloc (.cells #[.bool false, .int .u64 0, .int .u64 0, .int .u64 0, .int .u64 0, .int .u64 0, .int .u64 0, .int .u64 0, .int .u64 0] 50)); clear HS; have HS := HS2; clear HS2
        clear hHeld
        refine hK.out _ _ ?_ (fun hHeld => ?_)
        · exact ⟨HS.out.a, HS.out.b⟩
        clear hK K
        (try simp only [Act.put, nA, nB, nC])
        refine wpAnyM_oneS 3 rfl (by kernel_rfl) (fun K hK => ?_)
        go_simp
        (refine (AC.out _).mono ?_); rintro e w3 ⟨rfl, hb3⟩; have HS2 := Lib.hid (HS.out.down hb3); clear HS; have HS := HS2; clear HS2; (try (have HA2 := Lib.hid (And.intro (HA.out.1.below hb3) HA.out.2); clear HA; have HA := HA2; clear HA2)); clear hb3
        (try dsimp only)
        (try simp only [Act.put, nA, nB, nC])
        clear hHeld
        refine hK.out _ _ ?_ (fun hHeld => ?_)
        · exact ⟨HS.out.a, HS.out.b⟩
        clear hK K
        (try simp only [Act.put, nA, nB, nC])
        refine wpAnyM_one 5 rfl (by kernel_rfl) (fun K hK => ?_)
        refine if_pos_of rfl ?_; refine wp_of_run (run_store_rowc 50 (.tmp 5) (.tmp 9) rfl _ rfl rfl HA.out.1 (by rw [bg_size, bg_size]) (oneCell_bg _ _) (ibg.trans (by rw [bg_size]))) ?_
        refine hK.out _ _ (.inl (by kernel_rfl)) (fun _ => ?_)
        clear hK K
        (try simp only [Act.put, nA, nB, nC])
        refine wpAnyM_done (by kernel_rfl) ?_ _
        (go_wp2_with fail; go_meet; exact ⟨_, rfl, Lib.hid ⟨HA.out.1.setRow _, below_row HS.out.below HA.out.2 _⟩⟩)
    · go_simp; have HA := Lib.hid (cm_new HS.out _ (by first | (simp; rfl) | rfl)); have HS2 := Lib.hid (HS.out.alloc (.cells #[.bool false, .int .u64 0, .int .u64 0, .int .u64 0, .int .u64 0, .int .u64 0, .int .u64 0, .int .u64 0, .int .u64 0] 50)); clear HS; have HS := HS2; clear HS2
      clear hHeld
      refine hK.out _ _ ?_ (fun hHeld => ?_)
      · exact ⟨HS.out.a, HS.out.b⟩
      clear hK K
      (try simp only [Act.put, nA, nB, nC])
      refine wpAnyM_oneS 2 rfl (by kernel_rfl) (fun K hK => ?_)
      go_simp
      (refine (NC.out _).mono ?_); rintro e w2 ⟨rfl, hb2⟩; have HS2 := Lib.hid (HS.out.down hb2); clear HS; have HS := HS2; clear HS2; (try (have HA2 := Lib.hid (And.intro (HA.out.1.below hb2) HA.out.2); clear HA; have HA := HA2; clear HA2)); clear hb2
      (try dsimp only)
      (try simp only [Act.put, nA, nB, nC])
      clear hHeld
      refine hK.out _ _ ?_ (fun hHeld => ?_)
      · exact ⟨HS.out.a, HS.out.b⟩
      clear hK K
      (try simp only [Act.put, nA, nB, nC])
      refine wpAnyM_oneS 3 rfl (by kernel_rfl) (fun K hK => ?_)
      go_simp
      (refine (AC.out _).mono ?_); rintro e w3 ⟨rfl, hb3⟩; have HS2 := Lib.hid (HS.out.down hb3); clear HS; have HS := HS2; clear HS2; (try (have HA2 := Lib.hid (And.intro (HA.out.1.below hb3) HA.out.2); clear HA; have HA := HA2; clear HA2)); clear hb3
      (try dsimp only)
      (try simp only [Act.put, nA, nB, nC])
      clear hHeld
      refine hK.out _ _ ?_ (fun hHeld => ?_)
      · exact ⟨HS.out.a, HS.out.b⟩
      clear hK K
      (try simp only [Act.put, nA, nB, nC])
      refine wpAnyM_one 5 rfl (by kernel_rfl) (fun K hK => ?_)
      refine if_pos_of rfl ?_; refine wp_of_run (run_store_rowc 50 (.tmp 5) (.tmp 9) rfl _ rfl rfl HA.out.1 (by rw [bg_size, bg_size]) (oneCell_bg _ _) (ibg.trans (by rw [bg_size]))) ?_
      refine hK.out _ _ (.inl (by kernel_rfl)) (fun _ => ?_)
      clear hK K
      (try simp only [Act.put, nA, nB, nC])
      refine wpAnyM_done (by kernel_rfl) ?_ _
      (go_wp2_with fail; go_meet; exact ⟨_, rfl, Lib.hid ⟨HA.out.1.setRow _, below_row HS.out.below HA.out.2 _⟩⟩)
  case rest =>
    obtain ⟨d, rfl, HB⟩ := hcut
    clear HS NC AC
    go_upto_region 2 with fail
    have RB := HB.out.1
    refine wp_region_lit ?_
    refine wpList_val (v := ?_) rfl ?_ ?_
    rotate_left
    · (go_simp; (try (first | with_reducible rfl | (constructor <;> with_reducible rfl))))
    (try simp only [Act.put, nA, nB, nC])
    refine wpList_val (v := ?_) rfl ?_ ?_
    rotate_left
    · refine Eq.trans (run_load_parts (.tmp 10) (by rfl) d (by rfl) RB) ?_; with_reducible rfl
    (try simp only [Act.put, nA, nB, nC])
    refine wpList_step (fun K hK => ?_)
    go_simp
    (refine (ZC.out _).mono ?_); rintro e w4 ⟨rfl, hb4⟩; have HC := Lib.hid (And.intro (RB.below hb4) (Below.after HB.out.2 hb4)); clear hb4
    (try dsimp only)
    (try simp only [Act.put, nA, nB, nC])
    refine hK _ _ ?_
    clear hK K
    refine wpList_nil ?_
    cases z with
    | true =>
      obtain rfl := E.out.1 rfl
      go_wp2_with fail
      go_ret
      exact ⟨rfl, HC.out.2⟩
    | false =>
      cases B with
      | true =>
        obtain rfl := E.out.2.1 rfl rfl
        have rs := HC.out.1.sign
        go_wp2_with fail
        go_ret
        exact ⟨rfl, HC.out.2⟩
      | false =>
        obtain rfl := E.out.2.2 rfl rfl
        have rs := HC.out.1.sign
        go_wp2_with fail
        go_ret
        exact ⟨rfl, HC.out.2⟩
end Go.Proofs.Ytpbgglkopfjagaa
/- Contracts of the first reference's Clamp, Sat. -/
namespace Go.Proofs.Ytpbgglkopfjagaa
open Go.RowKit
set_option maxRecDepth 100000
theorem bclamp_any (c : Addr) (h : Bool) (a lo hi : Int) (w : World) (hc : w.cell? c = some (.bool h)) (hf : w.frozen? c = false) :
    Calls Try.prog 27 #[.pointer (some c), .int .i64 a, .int .i64 lo, .int .i64 hi] w fun e w' =>
      e = .returned (.int .i64 (clampV a lo hi)) ∧ w.setCell c (.bool (h || clampH a lo hi)) = w' := by
  by_cases h1 : a < lo
  · obtain ⟨e1, e2⟩ := clamp1 (hi := hi) (.inr h1)
    rw [e1, e2, Bool.or_true]
    have d1 : decide (a < lo) = true := by simpa using h1
    have d2 : (lo != a) = true := by simp; omega
    clear e1 e2 h1
    go_enter Try.func27, Try.ntmps27
    cases h <;> (go_wp2_with fail; go_ret; exact ⟨rfl, rfl⟩)
  have d1 : decide (a < lo) = false := by simpa using h1
  by_cases h0 : hi < lo
  · obtain ⟨e1, e2⟩ := clamp1 (a := a) (.inl h0)
    rw [e1, e2, Bool.or_true]
    have d0 : decide (hi < lo) = true := by simpa using h0
    clear e1 e2 h0 h1
    by_cases h2 : lo = a
    · subst h2
      have d2 : (lo != lo) = false := by simp
      go_enter Try.func27, Try.ntmps27
      cases h <;> (go_wp2_with fail; go_ret; exact ⟨rfl, rfl⟩)
    · have d2 : (lo != a) = true := by simpa using h2
      clear h2
      go_enter Try.func27, Try.ntmps27
      cases h <;> (go_wp2_with fail; go_ret; exact ⟨rfl, rfl⟩)
  have d0 : decide (hi < lo) = false := by simpa using h0
  by_cases h2 : hi < a
  · obtain ⟨e1, e2⟩ := clamp2 h0 h1 h2
    rw [e1, e2, Bool.or_true]
    have d2 : decide (hi < a) = true := by simpa using h2
    have d3 : (hi != a) = true := by simp; omega
    clear e1 e2 h0 h1 h2
    go_enter Try.func27, Try.ntmps27
    cases h <;> (go_wp2_with fail; go_ret; exact ⟨rfl, rfl⟩)
  · obtain ⟨e1, e2⟩ := clamp3 h0 h1 h2
    rw [e1, e2, Bool.or_false]
    have d2 : decide (hi < a) = false := by simpa using h2
    have d3 : (a != a) = false := by simp
    clear e1 e2 h0 h1 h2
    go_enter Try.func27, Try.ntmps27
    cases h <;> (go_wp2_with fail; go_ret; exact ⟨rfl, rfl⟩)
theorem bsat_any (c : Addr) (h : Bool) (a : Int) (w : World) (hc : w.cell? c = some (.bool h)) (hf : w.frozen? c = false) :
    Calls Try.prog 10 #[.pointer (some c), .int .i64 a] w fun e w' => e = .returned (.int .i64 (satV a)) ∧ w.setCell c (.bool (h || satH a)) = w' := by
  go_enter Try.func10, Try.ntmps10
  go_wp2_with (go_at_call 27; refine (bclamp_any c h a _ _ _ hc hf).mono ?_; rintro e w' ⟨rfl, rfl⟩)
  go_ret
  exact ⟨rfl, rfl⟩
end Go.Proofs.Ytpbgglkopfjagaa
/- Numbers in base 2^31: what is carried; the order, digit by digit. No program. -/
namespace Go.Proofs.Ytpbgglkopfjagaa
def dgL (N : Nat → Nat) (n i : Nat) : Nat := if i < n then N i else 0
def dgP (N : Nat → Nat) (n : Nat) : Nat → Nat | 0 => 0 | i + 1 => dgP N n i + dgL N n i * 2 ^ (31 * i)
def dgC (N : Nat → Nat) (n i : Nat) : Nat := dgP N n i / 2 ^ (31 * i)
def digF (V i : Nat) : Nat := V / 2 ^ (31 * i) % 2147483648
theorem pow31 (i : Nat) : 2 ^ (31 * (i + 1)) = 2 ^ (31 * i) * 2147483648 := by rw [Nat.mul_add, Nat.pow_add]
theorem dgC_0 (N : Nat → Nat) (n : Nat) : dgC N n 0 = 0 := by simp [dgC, dgP]
theorem dgC_succ (N : Nat → Nat) (n i : Nat) : dgC N n (i + 1) = (dgL N n i + dgC N n i) / 2147483648 := by
  unfold dgC
  rw [pow31, ← Nat.div_div_eq_div_mul]
  simp only [dgP]
  rw [Nat.add_mul_div_right _ _ (Nat.two_pow_pos _), Nat.add_comm]
theorem dgP_more (N : Nat → Nat) (n i : Nat) : ∀ m, i ≤ m → ∃ W, dgP N n m = dgP N n i + W * 2 ^ (31 * i)
  | 0, h => ⟨0, by rw [show i = 0 by omega]; simp⟩
  | m + 1, h => by
    by_cases e : i = m + 1
    · subst e; exact ⟨0, by simp⟩
    · obtain ⟨W, hW⟩ := dgP_more N n i m (by omega)
      refine ⟨W + dgL N n m * 2 ^ (31 * (m - i)), ?_⟩
      simp only [dgP]
      rw [hW, Nat.add_mul, Nat.mul_assoc (dgL N n m), ← Nat.pow_add, show 31 * (m - i) + 31 * i = 31 * m by omega, Nat.add_assoc]
theorem dig_at (N : Nat → Nat) (n i m : Nat) (h : i < m) : digF (dgP N n m) i = (dgL N n i + dgC N n i) % 2147483648 := by
  obtain ⟨W, hW⟩ := dgP_more N n (i + 1) m h
  unfold digF dgC
  rw [hW]
  simp only [dgP]
  rw [pow31, show W * (2 ^ (31 * i) * 2147483648) = (W * 2147483648) * 2 ^ (31 * i) by rw [Nat.mul_comm (2 ^ (31 * i)), Nat.mul_assoc], Nat.add_mul_div_right _ _ (Nat.two_pow_pos _), Nat.add_mul_div_right _ _ (Nat.two_pow_pos _)]
  omega
theorem dgP_end (N : Nat → Nat) (n : Nat) : ∀ m, n ≤ m → dgP N n m = dgP N n n
  | 0, h => by rw [show n = 0 by omega]
  | m + 1, h => by
    by_cases e : n = m + 1
    · subst e; rfl
    · simp only [dgP]
      rw [dgP_end N n m (by omega), show dgL N n m = 0 from by unfold dgL; rw [if_neg (by omega)], Nat.zero_mul, Nat.add_zero]
theorem dgC_bd {N : Nat → Nat} {n : Nat} (hN : ∀ i, i < n → N i < 9223372036854775808) : ∀ i, dgC N n i < 8589934592
  | 0 => by rw [dgC_0]; decide
  | i + 1 => by
    have h := dgC_bd hN i
    rw [dgC_succ]
    have hl : dgL N n i < 9223372036854775808 := by
      unfold dgL
      split
      · exact hN i (by assumption)
      · decide
    omega
theorem dig_zero {V i : Nat} (h : V < 2 ^ (31 * i)) : digF V i = 0 := by unfold digF; rw [Nat.div_eq_of_lt h]
/-- The order by the highest digit that differs. -/
theorem dig_lt {V R i : Nat} (h : V / 2 ^ (31 * (i + 1)) = R / 2 ^ (31 * (i + 1))) (hd : digF V i < digF R i) : V < R := by
  unfold digF at hd
  rw [pow31, ← Nat.div_div_eq_div_mul, ← Nat.div_div_eq_div_mul] at h
  have : V / 2 ^ (31 * i) < R / 2 ^ (31 * i) := by omega
  rcases Nat.lt_or_ge V R with h2 | h2
  · exact h2
  · have := Nat.div_le_div_right (c := 2 ^ (31 * i)) h2; omega
theorem dig_eq {V R i : Nat} (h : V / 2 ^ (31 * (i + 1)) = R / 2 ^ (31 * (i + 1))) (hd : digF V i = digF R i) : V / 2 ^ (31 * i) = R / 2 ^ (31 * i) := by
  unfold digF at hd
  rw [pow31, ← Nat.div_div_eq_div_mul, ← Nat.div_div_eq_div_mul] at h
  omega
end Go.Proofs.Ytpbgglkopfjagaa
/- Contract of the reference's digits. -/
namespace Go.Proofs.Ytpbgglkopfjagaa
open Go.RowKit
open Go (bits)
set_option maxRecDepth 100000
theorem and31 (x : Nat) (hx : x < 9223372036854775808) : bits .and .i64 (x : Int) 2147483647 = ((x % 2147483648 : Nat) : Int) := by
  have hb : x &&& 2147483647 < 2 ^ 63 := Nat.and_lt_two_pow _ (by decide)
  have h1 : (BitVec.ofInt 64 (x : Int)).toNat = x := by
    rw [BitVec.ofInt_natCast, BitVec.toNat_ofNat]; exact Nat.mod_eq_of_lt (by omega)
  have h2 : (BitVec.ofInt 64 (2147483647 : Int)).toNat = 2147483647 := by decide
  show IntKind.i64.wrap ((BitVec.ofInt 64 (x : Int) &&& BitVec.ofInt 64 (2147483647 : Int)).toNat : Int) = _
  rw [BitVec.toNat_and, h1, h2]
  rw [show x &&& 2147483647 = x % 2147483648 from by rw [show (2147483647 : Nat) = 2 ^ 31 - 1 from rfl, Nat.and_two_pow_sub_one_eq_mod]]
  exact IntWalk.i64_in _ (by omega)
structure DgR (N : Nat → Nat) (n k : Nat) (v : Value) (w wr : World) : Prop where
  below : Below w.heap.size w wr
  own : Own wr w.heap.size 2 v k (fun i => ((digF (dgP N n n) i : Nat) : Int))
set_option maxHeartbeats 8000000 in
theorem rdigits_any (N : Nat → Nat) (p : Option Addr) (n cp : Nat) (w : World) (hn : n ≤ 10) (hN : ∀ i, i < n → N i < 9223372036854775808) (hL : Slc w p n (fun i => ((N i : Nat) : Int))) :
    Calls Try.prog 34 #[.slice p n cp] w fun e w' => ∃ v, e = .returned v ∧ Own w' w.heap.size 2 v (n + 3) (fun i => ((digF (dgP N n n) i : Nat) : Int)) ∧ Below w.heap.size w w' := by
  have HL := Lib.hid hL
  have HN := Lib.hid hN
  clear hL hN
  go_enter Try.func34, Try.ntmps34
  go_wp2_with fail
  go_loopw [3, 4, 5] (fun v3 v4 v5 wr => ∃ (k : Nat) (v : Value), k ≤ n + 3 ∧ v = v3 ∧ v4 = .int .i64 (dgC N n k : Nat) ∧ v5 = .int .i64 k ∧ Hid (DgR N n k v w wr)) (fun _ _ v5 _ => n + 3 - (intOf v5).toNat)
  case atStart => exact ⟨0, _, by omega, rfl, by rw [dgC_0]; rfl, rfl, Lib.hid ⟨Below.refl _ _, Own.nil _ _ _ _⟩⟩
  case round =>
    obtain ⟨k, v, hk, hv, rfl, rfl, R⟩ := hrel
    subst hv
    have n3 : (n : Int) ≤ 10 := by omega
    have n0 : (0 : Int) ≤ (n : Int) := Int.natCast_nonneg _
    by_cases hlt : k < n + 3
    · have d1 : decide ((k : Int) < (n : Int) + 3) = true := by simp; omega
      have hcb := dgC_bd HN.out k
      have hcs := dgC_succ N n k
      have hdg := dig_at N n k (n + 3) hlt
      rw [dgP_end N n (n + 3) (by omega)] at hdg
      obtain ⟨c, hc⟩ : ∃ c, dgC N n k = c := ⟨_, rfl⟩
      rw [hc] at hcb hcs hdg ⊢
      have k0 : (0 : Int) ≤ (k : Int) := Int.natCast_nonneg _
      have k1 : (k : Int) < 13 := by omega
      by_cases hkn : k < n
      · have d2 : decide (k < n) = true := by simpa using hkn
        have d3 : decide ((k : Int) < (n : Int)) = true := by simp; omega
        obtain ⟨pb, po, rfl, hcell⟩ := HL.out k hkn
        have hc1 : wr.cell? ⟨pb, po + k, none⟩ = some (.int .i64 (N k : Nat)) := (R.out.below.cell (World.block_lt_of_cell? _ _ hcell)).trans hcell
        have hl := HN.out k hkn
        have hdl : dgL N n k = N k := by unfold dgL; rw [if_pos hkn]
        rw [hdl] at hcs hdg
        obtain ⟨l, hl2⟩ : ∃ l, N k = l := ⟨_, rfl⟩
        rw [hl2] at hc1 hl hcs hdg
        have f1 := and31 l hl
        have f2 := and31 c (by omega)
        obtain ⟨a1, ha1⟩ : ∃ x, l % 2147483648 = x := ⟨_, rfl⟩
        obtain ⟨a2, ha2⟩ : ∃ x, c % 2147483648 = x := ⟨_, rfl⟩
        rw [ha1] at f1
        rw [ha2] at f2
        obtain ⟨t, ht⟩ : ∃ x, a1 + a2 = x := ⟨_, rfl⟩
        have hti : (a1 : Int) + (a2 : Int) = (t : Int) := by omega
        have t0 : (0 : Int) ≤ (t : Int) := Int.natCast_nonneg _
        have t1 : (t : Int) < 4294967296 := by omega
        have f3 := and31 t (by omega)
        obtain ⟨d, hd⟩ : ∃ x, t % 2147483648 = x := ⟨_, rfl⟩
        rw [hd] at f3
        obtain ⟨b1, hb1⟩ : ∃ x, l / 2147483648 = x := ⟨_, rfl⟩
        obtain ⟨b2, hb2⟩ : ∃ x, c / 2147483648 = x := ⟨_, rfl⟩
        obtain ⟨b3, hb3⟩ : ∃ x, t / 2147483648 = x := ⟨_, rfl⟩
        obtain ⟨cn, hcn⟩ : ∃ x, b1 + b2 + b3 = x := ⟨_, rfl⟩
        have ED := Lib.hid (show digF (dgP N n n) k = d ∧ dgC N n (k + 1) = cn by
          rw [hdg, hcs]; omega)
        have i1 : (l : Int) / 2147483648 = (b1 : Int) := by omega
        have i2 : (c : Int) / 2147483648 = (b2 : Int) := by omega
        have i3 : (t : Int) / 2147483648 = (b3 : Int) := by omega
        have u1 : (b1 : Int) < 4294967296 := by omega
        have u2 : (b2 : Int) < 4 := by omega
        have u3 : (b3 : Int) < 4 := by omega
        have u4 : (0 : Int) ≤ (b1 : Int) := Int.natCast_nonneg _
        have u5 : (0 : Int) ≤ (b2 : Int) := Int.natCast_nonneg _
        have u6 : (0 : Int) ≤ (b3 : Int) := Int.natCast_nonneg _
        have hci : (b1 : Int) + (b2 : Int) + (b3 : Int) = (cn : Int) := by omega
        have HCI := Lib.hid hci
        have hkx : k ≤ 13 := by omega
        clear hcell hl2 hdl hl hcb hcs hdg ha1 ha2 ht hd hb1 hb2 hb3 hcn hci
        go_upto_region 9 with fail
        rw [HCI.out]
        clear i1 i2 i3 u1 u2 u3 u4 u5 u6 f1 f2 t0 t1 hti HCI
        have O1 := Lib.hid R.out.own
        have B1 := Lib.hid R.out.below
        have hws := R.out.below.size
        clear R hc1
        go_wp2_with (refine wpList_app1 rfl (.tmp 37) (.tmp 40) rfl w.heap.size rfl (O1.out.alloc _) wr.heap.size 1 (d : Int) rfl (by simp [go_sem]) (by omega) (by simp; omega) (wr.heap.size + 1) (by simp) ?_; intro g1 cp1 w3 hO1 hg1 hat1 hlt1; have HO1 := Lib.hid hO1; have HG1 := Lib.hid hg1; clear hO1 hg1 hat1)
        go_roundw
        case rel =>
          refine ⟨k + 1, _, by omega, rfl, by rw [ED.out.2], by go_num, Lib.hid ⟨?_, HO1.out.congr (snoc_fun (n := k) (L := fun i => ((digF (dgP N n n) i : Nat) : Int)) (by rw [ED.out.1]))⟩⟩
          exact below_grown (B1.out.alloc hws _) HG1.out (fun j hj => (ownBlock_lt O1.out hj).1) (by simp; omega)
        case measure => simp [intOf]; omega
      · have d2 : decide (k < n) = false := by simpa using hkn
        have d3 : decide ((k : Int) < (n : Int)) = false := by simp; omega
        have hdl : dgL N n k = 0 := by unfold dgL; rw [if_neg hkn]
        rw [hdl, Nat.zero_add] at hcs hdg
        have f3 := and31 c (by omega)
        obtain ⟨d, hd⟩ : ∃ x, c % 2147483648 = x := ⟨_, rfl⟩
        obtain ⟨cn, hcn⟩ : ∃ x, c / 2147483648 = x := ⟨_, rfl⟩
        rw [hd] at f3
        have ED := Lib.hid (show digF (dgP N n n) k = d ∧ dgC N n (k + 1) = cn by rw [hdg, hcs]; omega)
        have i1 : (c : Int) / 2147483648 = (cn : Int) := by omega
        have O1 := Lib.hid R.out.own
        have B1 := Lib.hid R.out.below
        have hws := R.out.below.size
        have hkx : k ≤ 13 := by omega
        clear hdl hcs hdg hd hcn hcb R
        go_wp2_with (refine wpList_app1 rfl (.tmp 42) (.tmp 45) rfl w.heap.size rfl (O1.out.alloc _) wr.heap.size 1 (d : Int) rfl (by simp [go_sem]) (by omega) (by simp; omega) (wr.heap.size + 1) (by simp) ?_; intro g1 cp1 w3 hO1 hg1 hat1 hlt1; have HO1 := Lib.hid hO1; have HG1 := Lib.hid hg1; clear hO1 hg1 hat1)
        go_roundw
        case rel =>
          refine ⟨k + 1, _, by omega, rfl, by rw [ED.out.2], by go_num, Lib.hid ⟨?_, HO1.out.congr (snoc_fun (n := k) (L := fun i => ((digF (dgP N n n) i : Nat) : Int)) (by rw [ED.out.1]))⟩⟩
          exact below_grown (B1.out.alloc hws _) HG1.out (fun j hj => (ownBlock_lt O1.out hj).1) (by simp; omega)
        case measure => simp [intOf]; omega
    · obtain rfl : k = n + 3 := by omega
      have d1 : decide (((n + 3 : Nat) : Int) < (n : Int) + 3) = false := by simp
      have HR := Lib.hid R.out
      clear R
      go_wp2_with fail
      go_ret
      exact ⟨v, rfl, HR.out.own, HR.out.below⟩
end Go.Proofs.Ytpbgglkopfjagaa
