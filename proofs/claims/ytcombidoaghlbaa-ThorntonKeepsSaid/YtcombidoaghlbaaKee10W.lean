/- The walk of the law ThorntonKeeps. -/
import Derived.Test.YtcombidoaghlbaaS01
import Derived.Test.YtcombidoaghlbaaClB
import Derived.Test.YtcombidoaghlbaaDg
import Derived.Test.YtcombidoaghlbaaRegD
namespace Go.Proofs.Ytcombidoaghlbaa
open Go.RowKit
set_option maxRecDepth 100000
/-- The law's own blocks: the factors; the flag; the noise. -/
structure KeR (bc qb : Nat) (P Q : Nat → Int) (w wr : World) : Prop where
  below : Below w.heap.size w wr
  p : Blk wr w.heap.size 25 300 P
  fl : Flg wr bc false
  q : Blk wr qb 23 24 Q
  lt : w.heap.size < bc ∧ bc < qb
section
variable {bc qb ab' xb yb : Nat} {P Q A X Y : Nat → Int} {w wr w' : World}
theorem KeR.down (s : KeR bc qb P Q w wr) (u : Below wr.heap.size wr w') : KeR bc qb P Q w w' := ⟨s.below.trans (u.mono s.below.size), s.p.below u, s.fl.below u, s.q.below u, s.lt⟩
theorem KeR.upd' (s : KeR bc qb P Q w wr) (u : Upd ⟨bc, 0, none⟩ false wr w') : KeR bc qb P Q w w' := by
  have := s.lt
  exact ⟨own_upd s.below (by simp only; omega) u, s.p.upd u (by simp only; omega), s.fl.hit u, s.q.upd u (by simp only; omega), s.lt⟩
theorem KeR.setQ (s : KeR bc qb P Q w wr) (i : Nat) (x : Int) : KeR bc qb P (upd Q i x) w (wr.setCell ⟨qb, i, none⟩ (.int .i64 x)) := by
  have := s.lt
  exact ⟨s.below.setCell (by simp only; omega) _, s.p.other (by simp only; omega) _, s.fl.other (by simp only; omega) _, s.q.set i x, s.lt⟩
/-- .. and the answer. -/
structure KaR (bc qb b : Nat) (P Q A : Nat → Int) (w wr : World) : Prop where
  k : KeR bc qb P Q w wr
  a : Blk wr b 25 300 A
  lt : qb < b
theorem KaR.down (s : KaR bc qb ab' P Q A w wr) (u : Below wr.heap.size wr w') : KaR bc qb ab' P Q A w w' := ⟨s.k.down u, s.a.below u, s.lt⟩
theorem KaR.upd' (s : KaR bc qb ab' P Q A w wr) (u : Upd ⟨bc, 0, none⟩ false wr w') : KaR bc qb ab' P Q A w w' := by
  have := s.lt
  have := s.k.lt
  exact ⟨s.k.upd' u, s.a.upd u (by simp only; omega), s.lt⟩
theorem ke_new (s : KeR bc qb P Q w wr) (d : Nat) (e : wr.heap.size = d) : Blk (wr.alloc (.cells Try.zeroCells25 25)) d 25 300 (fun _ => 0) ∧ qb < d := by
  subst e; rw [zcov]; exact ⟨Blk.new _ _ _ _, s.q.lt⟩
theorem ke_put {f : Nat → Int} {d : Nat} (s : KeR bc qb P Q w wr) (hb : Blk wr d 25 300 f) (hd : qb < d) (A : Nat → Int) : KaR bc qb d P Q A w (wr.setRow d (arrv 300 A)) := by
  have := s.lt
  exact ⟨⟨below_row s.below (by omega) _, s.p.setRow_other _ (by omega), s.fl.row _ (by omega), s.q.setRow_other _ (by omega), s.lt⟩, hb.setRow A, hd⟩
end
theorem kee_noop (P : Nat → Int) (k n : Int) (w : World) (h : k < 0 ∨ 23 < k ∨ n < 0 ∨ 17592186044416 < n) :
    Calls Try.prog 4 #[.agg (arrv 300 P), .int .i64 k, .int .i64 n] w fun e w' => e = .returned (.bool true) ∧ Below w.heap.size w w' := by
  have S0 := Lib.hid (show Below w.heap.size w (w.alloc (.cells (arrv 300 P) 25)) by (repeat (first | with_reducible exact Below.refl _ _ | with_reducible apply Below.drew | (with_reducible refine below_drewN ?_ _) | (with_reducible refine Below.alloc ?_ (by (try simp) <;> omega) _) | (with_reducible refine Below.setCell ?_ (by (try simp) <;> omega) _))))
  go_enter Try.func4, Try.ntmps4
  go_upto_region 1 with fail
  generalize w.alloc (.cells (arrv 300 P) 25) = W0 at *
  go_wp2_with (go_at_call 7; (refine (awake_any _).mono ?_); rintro e w1 ⟨rfl, hb1⟩; have S1 := Lib.hid (Below.after S0.out hb1); clear hb1)
  all_goals (first | (exfalso; omega) | (go_ret; exact ⟨rfl, S1.out⟩))
theorem keT {P0 : Nat → Int} {k : Nat} {n : Int} (hn : 0 ≤ n ∧ n ≤ 17592186044416) : TkH (clD P0 24) oneF (upd (fun _ => 0) k n) 24 where
  u := (clD_hyp P0).1
  d := (clD_hyp P0).2
  f := fun i m hi hm => by
    rw [oneF_at hm]
    by_cases h : i = m
    · rw [if_pos h, if_pos ⟨h, by omega⟩]
    · rw [if_neg h, if_neg (by omega)]
  n := fun i hi => by
    show 0 ≤ (if i = k then n else 0) ∧ (if i = k then n else 0) ≤ 22000000000000 ∧ (i ≠ 24 → (if i = k then n else 0) ≤ 17592186044416)
    split <;> omega
  qk := fun h => absurd h (by omega)
set_option maxHeartbeats 4000000 in
theorem kee_yes (P0 : Nat → Int) (k : Nat) (n : Int) (w : World) (hk : k < 24) (hn : 0 ≤ n ∧ n ≤ 17592186044416) :
    Calls Try.prog 4 #[.agg (arrv 300 P0), .int .i64 (k : Int), .int .i64 n] w fun e w' => e = .returned (.bool true) ∧ Below w.heap.size w w' := by
  have TT := Lib.hid (keT (P0 := P0) (k := k) hn)
  have S0 := Lib.hid (And.intro (show Below w.heap.size w (w.alloc (.cells (arrv 300 P0) 25)) by (repeat (first | with_reducible exact Below.refl _ _ | with_reducible apply Below.drew | (with_reducible refine below_drewN ?_ _) | (with_reducible refine Below.alloc ?_ (by (try simp) <;> omega) _) | (with_reducible refine Below.setCell ?_ (by (try simp) <;> omega) _)))) ((Blk.new w 25 300 P0)))
  have i0 : (0 : Int) ≤ (k : Int) := Int.natCast_nonneg _
  have i1 : (k : Int) < 24 := by omega
  have t1 : decide ((k : Int) < 0) = false := by simp
  have t2 : decide (23 < (k : Int)) = false := by simp; omega
  have t3 : decide (n < 0) = false := by simp; omega
  have t4 : decide (17592186044416 < n) = false := by simp; omega
  go_enter Try.func4, Try.ntmps4
  go_upto_region 1 with fail
  generalize w.alloc (.cells (arrv 300 P0) 25) = W0 at *
  go_upto_region 5 with (go_at_call 7; (refine (awake_any _).mono ?_); rintro e w1 ⟨rfl, hb1⟩; have S1 := Lib.hid (And.intro (Below.after S0.out.1 hb1) (S0.out.2.below hb1)); clear hb1)
  clear S0
  go_wp2_with fail
  go_loopw [7] (fun v wr => ∃ m : Nat, m ≤ 276 ∧ v = .int .i64 m ∧ Hid (Below w.heap.size w wr ∧ Blk wr w.heap.size 25 300 (clU P0 m))) (fun v _ => 276 - (intOf v).toNat)
  case atStart => exact ⟨0, by omega, rfl, S1.out.1, S1.out.2.congr fun x _ => by simp [clU]⟩
  case round =>
    obtain ⟨m, hm, rfl, R⟩ := hrel
    clear S1
    by_cases hlt : m < 276
    · have d1 : decide ((m : Int) < 276) = true := by simp; omega
      have m0 : (0 : Int) ≤ (m : Int) := Int.natCast_nonneg _
      have m1 : (m : Int) < 276 := by omega
      have c0 := R.out.2.cell (i := m) (by omega)
      have c1 := R.out.2.free m
      go_wp2_with fail
      go_roundw
      case rel =>
        refine ⟨m + 1, by omega, by go_num, R.out.1.setCell (Nat.le_refl _) _, ?_⟩
        exact (R.out.2.set m ((clU P0 m m).tmod 268435456)).congr fun x _ => clU_next P0 m x
      case measure => simp [intOf]; omega
    · have hk6 : m = 276 := by omega
      subst hk6
      rw [show ((276 : Nat) : Int) = 276 from rfl]
      have R2 := Lib.hid (And.intro R.out.1 (R.out.2.congr (clD_start P0)))
      clear R hlt hm
      go_wp2_with fail
      go_loopw [8] (fun v wr => ∃ m : Nat, m ≤ 24 ∧ v = .int .i64 m ∧ Hid (Below w.heap.size w wr ∧ Blk wr w.heap.size 25 300 (clD P0 m))) (fun v _ => 24 - (intOf v).toNat)
      case atStart => exact ⟨0, by omega, rfl, R2.out⟩
      case round =>
        obtain ⟨m, hm, rfl, R⟩ := hrel
        clear R2
        by_cases hlt : m < 24
        · have d1 : decide ((m : Int) < 24) = true := by simp; omega
          have m0 : (0 : Int) ≤ (m : Int) := Int.natCast_nonneg _
          have m1 : (m : Int) < 24 := by omega
          have c0 := R.out.2.cell (i := 276 + m) (by omega)
          have c1 := R.out.2.free (276 + m)
          have b1 := and43 (P0 (276 + m))
          rw [clD_at] at c0
          have w1' : IntKind.i64.wrap (17179869184 + Go.bits .and .i64 (P0 (276 + m)) 8796093022207) = 17179869184 + Go.bits .and .i64 (P0 (276 + m)) 8796093022207 := IntWalk.i64_in _ (by omega)
          go_wp2_with fail
          go_roundw
          case rel =>
            refine ⟨m + 1, by omega, by go_num, R.out.1.setCell (Nat.le_refl _) _, ?_⟩
            exact (R.out.2.set (276 + m) (17179869184 + Go.bits .and .i64 (P0 (276 + m)) 8796093022207)).congr fun x _ => clD_next P0 m x
          case measure => simp [intOf]; omega
        · have hm24 : m = 24 := by omega
          subst hm24
          rw [show ((24 : Nat) : Int) = 24 from rfl]
          have R3 := Lib.hid R.out
          clear R hlt hm
          obtain ⟨P, hP⟩ : ∃ x, clD P0 24 = x := ⟨_, rfl⟩
          rw [hP] at R3 TT
          clear hP
          go_upto_region 14 with fail
          obtain ⟨bc, hbc⟩ : ∃ x, wr.heap.size = x := ⟨_, rfl⟩
          have K4 := Lib.hid (Flg.new wr false)
          have b4 : Below wr.heap.size wr (wr.alloc (.cells #[.bool false] 32)) := (Below.refl _ _).alloc (Nat.le_refl _) _
          have R4 := Lib.hid (And.intro (Below.after R3.out.1 b4) (R3.out.2.below b4))
          have hl4 : w.heap.size < bc := by rw [← hbc]; exact R3.out.2.lt
          rw [hbc] at K4 ⊢
          generalize wr.alloc (.cells #[.bool false] 32) = W4 at *
          clear R3 hbc b4
          refine wp_region_lit ?_
          refine wpList_val (v := ?_) rfl ?_ ?_
          rotate_left
          · (go_simp; rw [zcol])
          (try simp only [Act.put, nA, nB, nC])
          refine wpList_act (v := ?_) (w' := ?_) rfl ?_ ?_
          rotate_left 2
          · (go_simp; (try (first | with_reducible rfl | (constructor <;> with_reducible rfl))))
          (try simp only [Act.put, nA, nB, nC])
          refine wpList_done (w' := ?_) rfl ?_ ?_
          rotate_left
          · (refine Eq.trans (run_store_row 23 (.tmp 10) (.tmp 59) (by rfl) (W4.heap.size) (by rfl) (by rfl) (show Blk (W4.alloc (.cells #[.int .i64 0, .int .i64 0, .int .i64 0, .int .i64 0, .int .i64 0, .int .i64 0, .int .i64 0, .int .i64 0, .int .i64 0, .int .i64 0, .int .i64 0, .int .i64 0, .int .i64 0, .int .i64 0, .int .i64 0, .int .i64 0, .int .i64 0, .int .i64 0, .int .i64 0, .int .i64 0, .int .i64 0, .int .i64 0, .int .i64 0, .int .i64 0] 23)) W4.heap.size 23 24 (fun _ => 0) by rw [zcol]; exact Blk.new _ _ _ _) (icol.trans rfl)) ?_; with_reducible rfl)
          (try simp only [Act.put, nA, nB, nC])
          refine wpList_nil ?_
          have b5 : Below W4.heap.size W4 ((W4.alloc (.cells #[.int .i64 0, .int .i64 0, .int .i64 0, .int .i64 0, .int .i64 0, .int .i64 0, .int .i64 0, .int .i64 0, .int .i64 0, .int .i64 0, .int .i64 0, .int .i64 0, .int .i64 0, .int .i64 0, .int .i64 0, .int .i64 0, .int .i64 0, .int .i64 0, .int .i64 0, .int .i64 0, .int .i64 0, .int .i64 0, .int .i64 0, .int .i64 0] 23)).setRow W4.heap.size (arrv 24 (fun _ => 0))) := below_row ((Below.refl _ _).alloc (Nat.le_refl _) _) (Nat.le_refl _) _
          have Q5 := Lib.hid (show Blk ((W4.alloc (.cells #[.int .i64 0, .int .i64 0, .int .i64 0, .int .i64 0, .int .i64 0, .int .i64 0, .int .i64 0, .int .i64 0, .int .i64 0, .int .i64 0, .int .i64 0, .int .i64 0, .int .i64 0, .int .i64 0, .int .i64 0, .int .i64 0, .int .i64 0, .int .i64 0, .int .i64 0, .int .i64 0, .int .i64 0, .int .i64 0, .int .i64 0, .int .i64 0] 23)).setRow W4.heap.size (arrv 24 (fun _ => 0))) W4.heap.size 23 24 (fun _ => 0) by rw [zcol]; exact (Blk.new _ _ _ _).setRow _)
          have KE := Lib.hid (show KeR bc W4.heap.size P (fun _ => 0) w ((W4.alloc (.cells #[.int .i64 0, .int .i64 0, .int .i64 0, .int .i64 0, .int .i64 0, .int .i64 0, .int .i64 0, .int .i64 0, .int .i64 0, .int .i64 0, .int .i64 0, .int .i64 0, .int .i64 0, .int .i64 0, .int .i64 0, .int .i64 0, .int .i64 0, .int .i64 0, .int .i64 0, .int .i64 0, .int .i64 0, .int .i64 0, .int .i64 0, .int .i64 0] 23)).setRow W4.heap.size (arrv 24 (fun _ => 0))) from ⟨Below.after R4.out.1 b5, R4.out.2.below b5, K4.out.below b5, Q5.out, hl4, K4.out.lt⟩)
          obtain ⟨qb, hqb⟩ : ∃ x, W4.heap.size = x := ⟨_, rfl⟩
          rw [hqb] at KE ⊢
          generalize (W4.alloc (.cells #[.int .i64 0, .int .i64 0, .int .i64 0, .int .i64 0, .int .i64 0, .int .i64 0, .int .i64 0, .int .i64 0, .int .i64 0, .int .i64 0, .int .i64 0, .int .i64 0, .int .i64 0, .int .i64 0, .int .i64 0, .int .i64 0, .int .i64 0, .int .i64 0, .int .i64 0, .int .i64 0, .int .i64 0, .int .i64 0, .int .i64 0, .int .i64 0] 23)).setRow qb (arrv 24 (fun _ => 0)) = W5 at *
          clear Q5 b5 hqb R4 K4
          have c0 := KE.out.q.cell (i := k) hk
          have c1 := KE.out.q.free k
          go_upto_region 16 with fail
          have K6 := Lib.hid (KE.out.setQ k n)
          generalize W5.setCell ⟨qb, k, none⟩ (.int .i64 n) = W6 at *
          obtain ⟨Q, hQ⟩ : ∃ x, upd (fun _ => 0) k n = x := ⟨_, rfl⟩
          rw [hQ] at K6 TT
          have HQ := Lib.hid hQ
          clear KE c0 c1 hQ
          have ST0 := fun (x : World) (k1 : x.cell? ⟨bc, 0, none⟩ = some (.bool false)) (k2 : x.frozen? ⟨bc, 0, none⟩ = false) => step_any ⟨bc, 0, none⟩ false P oneF Q x k1 k2
          rw [TT.out.flag] at ST0
          obtain ⟨A, hA⟩ : ∃ x, stepF P oneF Q = x := ⟨_, rfl⟩
          rw [hA] at ST0
          have ST := Lib.hid ST0
          have HA0 := Lib.hid hA
          clear hA ST0
          have HS := Lib.hid (K6.out.down (Below.drew (Below.refl _ _)))
          clear K6
          (try simp only [Act.put])
          go_cut [11] from 63 to 67 (fun s11 wx => ∃ b, s11 = .pointer (some ⟨b, 0, none⟩) ∧ Hid (KaR bc qb b P Q A w wx))
          case first =>
            refine wp_region_M (fun w' => Blk w' w.heap.size 25 300 P ∧ Blk w' qb 23 24 Q) 6 (by kernel_rfl) ?_ (fun hHeld => ?_)
            · exact ⟨HS.out.p, HS.out.q⟩
            refine wpAnyM_take 0 (v := ?_) rfl (by kernel_rfl) (fun _ _ _ h => h) (Or.inl ⟨by rfl, ?_⟩) (by assumption) ?_
            rotate_left
            · (intro wx hSw; (try dsimp only at hSw); go_simp; (try with_reducible rfl))
            (try simp only [Act.put, nA, nB, nC])
            refine wpAnyM_take 1 (v := ?_) rfl (by kernel_rfl) (fun _ _ _ h => h) (Or.inl ⟨by rfl, ?_⟩) (by assumption) ?_
            rotate_left
            · (intro wx hSw; refine Eq.trans (run_load_row 25 (.tmp 3) (by rfl) (w.heap.size) (by rfl) _ _ _ _ (hSw.1) Try.underlying25 rfl (icov.trans (by rw [arrv_size]))) ?_; with_reducible rfl)
            (try simp only [Act.put, nA, nB, nC])
            refine wpAnyM_take 3 (v := ?_) rfl (by kernel_rfl) (fun _ _ _ h => h) (Or.inl ⟨by rfl, ?_⟩) (by assumption) ?_
            rotate_left
            · (intro wx hSw; refine Eq.trans (run_load_row 23 (.tmp 10) (by rfl) qb (by rfl) _ _ _ _ (hSw.2) Try.underlying23 rfl (icol.trans (by rw [arrv_size]))) ?_; with_reducible rfl)
            (try simp only [Act.put, nA, nB, nC])
            refine wpAnyM_twoS 2 5 rfl rfl (by kernel_rfl) (fun K hK => ?_) (fun K hK => ?_)
            · go_simp
              (refine (one_any _).mono ?_); rintro e w1 ⟨rfl, hb⟩; have HS2 := Lib.hid (HS.out.down hb); clear HS; have HS := HS2; clear HS2; (try (have HA2 := Lib.hid (And.intro (HA.out.1.below hb) HA.out.2); clear HA; have HA := HA2; clear HA2)); clear hb
              (try dsimp only)
              (try simp only [Act.put, nA, nB, nC])
              clear hHeld
              refine hK.out _ _ ?_ (fun hHeld => ?_)
              · exact ⟨HS.out.p, HS.out.q⟩
              clear hK K
              (try simp only [Act.put, nA, nB, nC])
              refine wpAnyM_twoS 4 5 rfl rfl (by kernel_rfl) (fun K hK => ?_) (fun K hK => ?_)
              · go_simp
                (refine (ST.out _ HS.out.fl.cell HS.out.fl.free).mono ?_); rintro e w2 ⟨rfl, hu⟩; have hlt2 := HS.out.lt; have HS2 := Lib.hid (HS.out.upd' hu); clear HS; have HS := HS2; clear HS2; (try (have HA2 := Lib.hid (And.intro (HA.out.1.upd hu (by have := HA.out.2; simp only; omega)) HA.out.2); clear HA; have HA := HA2; clear HA2)); clear hu hlt2
                (try dsimp only)
                (try simp only [Act.put, nA, nB, nC])
                clear hHeld
                refine hK.out _ _ ?_ (fun hHeld => ?_)
                · exact ⟨HS.out.p, HS.out.q⟩
                clear hK K
                (try simp only [Act.put, nA, nB, nC])
                refine wpAnyM_oneS 5 rfl (by kernel_rfl) (fun K hK => ?_)
                go_simp; have HA := Lib.hid (ke_new HS.out _ rfl); have HS2 := Lib.hid (HS.out.down (Below.alloc (Below.refl _ _) (Nat.le_refl _) (.cells Try.zeroCells25 25))); clear HS; have HS := HS2; clear HS2
                clear hHeld
                refine hK.out _ _ ?_ (fun hHeld => ?_)
                · exact ⟨HS.out.p, HS.out.q⟩
                clear hK K
                (try simp only [Act.put, nA, nB, nC])
                refine wpAnyM_doneL 6 rfl (by kernel_rfl) (by rfl) (by kernel_rfl) (run_store_row 25 (.tmp 11) (.tmp 67) rfl _ rfl rfl HA.out.1 icov) ?_
                (try simp only [Act.put, nA, nB, nC])
                refine wpAnyM_done (by kernel_rfl) ?_ _
                (go_wp2_with fail; go_meet; exact ⟨_, rfl, Lib.hid (ke_put HS.out HA.out.1 HA.out.2 A)⟩)
              · go_simp; have HA := Lib.hid (ke_new HS.out _ rfl); have HS2 := Lib.hid (HS.out.down (Below.alloc (Below.refl _ _) (Nat.le_refl _) (.cells Try.zeroCells25 25))); clear HS; have HS := HS2; clear HS2
                clear hHeld
                refine hK.out _ _ ?_ (fun hHeld => ?_)
                · exact ⟨HS.out.p, HS.out.q⟩
                clear hK K
                (try simp only [Act.put, nA, nB, nC])
                refine wpAnyM_oneS 4 rfl (by kernel_rfl) (fun K hK => ?_)
                go_simp
                (refine (ST.out _ HS.out.fl.cell HS.out.fl.free).mono ?_); rintro e w2 ⟨rfl, hu⟩; have hlt2 := HS.out.lt; have HS2 := Lib.hid (HS.out.upd' hu); clear HS; have HS := HS2; clear HS2; (try (have HA2 := Lib.hid (And.intro (HA.out.1.upd hu (by have := HA.out.2; simp only; omega)) HA.out.2); clear HA; have HA := HA2; clear HA2)); clear hu hlt2
                (try dsimp only)
                (try simp only [Act.put, nA, nB, nC])
                clear hHeld
                refine hK.out _ _ ?_ (fun hHeld => ?_)
                · exact ⟨HS.out.p, HS.out.q⟩
                clear hK K
                (try simp only [Act.put, nA, nB, nC])
                refine wpAnyM_doneL 6 rfl (by kernel_rfl) (by rfl) (by kernel_rfl) (run_store_row 25 (.tmp 11) (.tmp 67) rfl _ rfl rfl HA.out.1 icov) ?_
                (try simp only [Act.put, nA, nB, nC])
                refine wpAnyM_done (by kernel_rfl) ?_ _
                (go_wp2_with fail; go_meet; exact ⟨_, rfl, Lib.hid (ke_put HS.out HA.out.1 HA.out.2 A)⟩)
            · go_simp; have HA := Lib.hid (ke_new HS.out _ rfl); have HS2 := Lib.hid (HS.out.down (Below.alloc (Below.refl _ _) (Nat.le_refl _) (.cells Try.zeroCells25 25))); clear HS; have HS := HS2; clear HS2
              clear hHeld
              refine hK.out _ _ ?_ (fun hHeld => ?_)
              · exact ⟨HS.out.p, HS.out.q⟩
              clear hK K
              (try simp only [Act.put, nA, nB, nC])
              refine wpAnyM_oneS 2 rfl (by kernel_rfl) (fun K hK => ?_)
              go_simp
              (refine (one_any _).mono ?_); rintro e w1 ⟨rfl, hb⟩; have HS2 := Lib.hid (HS.out.down hb); clear HS; have HS := HS2; clear HS2; (try (have HA2 := Lib.hid (And.intro (HA.out.1.below hb) HA.out.2); clear HA; have HA := HA2; clear HA2)); clear hb
              (try dsimp only)
              (try simp only [Act.put, nA, nB, nC])
              clear hHeld
              refine hK.out _ _ ?_ (fun hHeld => ?_)
              · exact ⟨HS.out.p, HS.out.q⟩
              clear hK K
              (try simp only [Act.put, nA, nB, nC])
              refine wpAnyM_oneS 4 rfl (by kernel_rfl) (fun K hK => ?_)
              go_simp
              (refine (ST.out _ HS.out.fl.cell HS.out.fl.free).mono ?_); rintro e w2 ⟨rfl, hu⟩; have hlt2 := HS.out.lt; have HS2 := Lib.hid (HS.out.upd' hu); clear HS; have HS := HS2; clear HS2; (try (have HA2 := Lib.hid (And.intro (HA.out.1.upd hu (by have := HA.out.2; simp only; omega)) HA.out.2); clear HA; have HA := HA2; clear HA2)); clear hu hlt2
              (try dsimp only)
              (try simp only [Act.put, nA, nB, nC])
              clear hHeld
              refine hK.out _ _ ?_ (fun hHeld => ?_)
              · exact ⟨HS.out.p, HS.out.q⟩
              clear hK K
              (try simp only [Act.put, nA, nB, nC])
              refine wpAnyM_doneL 6 rfl (by kernel_rfl) (by rfl) (by kernel_rfl) (run_store_row 25 (.tmp 11) (.tmp 67) rfl _ rfl rfl HA.out.1 icov) ?_
              (try simp only [Act.put, nA, nB, nC])
              refine wpAnyM_done (by kernel_rfl) ?_ _
              (go_wp2_with fail; go_meet; exact ⟨_, rfl, Lib.hid (ke_put HS.out HA.out.1 HA.out.2 A)⟩)
          case rest =>
          obtain ⟨ab, rfl, HB⟩ := hcut
          clear HS
          have CLS := Lib.hid (fun (i : Nat) (hi : i < 24) => show atH A i i = false ∧ atH P i i = false ∧ Go.Proofs.Ytcombidoaghlbaa.ab (atV P i i) ≤ 212000000000000 ∧ Go.Proofs.Ytcombidoaghlbaa.ab (atV A i i - atV P i i - Q i) ≤ 4294967296 by
            have h := TT.out.close hi hi (show i ≠ 24 by omega) (show i ≠ 24 by omega)
            rw [if_pos rfl, HA0.out] at h
            exact h)
          have DC17' := fun (x : World) (k1 : x.cell? ⟨bc, 0, none⟩ = some (.bool false)) (k2 : x.frozen? ⟨bc, 0, none⟩ = false) => diag_any ⟨bc, 0, none⟩ false P x k1 k2
          rw [show orB (dgB P) 24 = false from cl_orB fun i hi => (CLS.out i hi).2.1] at DC17'
          have DC17 := Lib.hid DC17'
          clear DC17'
          have C17 := HB.out.k.p
          go_upto_region 17 with fail
          refine wp_region_lit ?_
          refine wpList_val (v := ?_) rfl ?_ ?_
          rotate_left
          · (go_simp; (try (first | with_reducible rfl | (constructor <;> with_reducible rfl))))
          (try simp only [Act.put, nA, nB, nC])
          refine wpList_val (v := ?_) rfl ?_ ?_
          rotate_left
          · refine Eq.trans (run_load_row 25 (.tmp 3) (by rfl) (w.heap.size) (by rfl) _ _ _ _ (C17) Try.underlying25 rfl (icov.trans (by rw [arrv_size]))) ?_; with_reducible rfl
          (try simp only [Act.put, nA, nB, nC])
          refine wpList_step (fun K hK => ?_)
          go_simp
          (refine (DC17.out _ HB.out.k.fl.cell HB.out.k.fl.free).mono ?_); rintro e w17 ⟨rfl, hu⟩; have U17 := Lib.hid hu; have HB2 := Lib.hid (HB.out.upd' hu); clear hu HB C17 DC17
          (try dsimp only)
          (try simp only [Act.put, nA, nB, nC])
          refine hK _ _ ?_
          clear hK K
          refine wpList_act (v := ?_) (w' := ?_) rfl ?_ ?_
          rotate_left 2
          · (go_simp; (try (first | with_reducible rfl | (constructor <;> with_reducible rfl))))
          (try simp only [Act.put, nA, nB, nC])
          refine wpList_done (w' := ?_) rfl ?_ ?_
          rotate_left
          · (refine Eq.trans (run_store_row 23 (.tmp 12) (.tmp 70) (by rfl) (w17.heap.size) (by rfl) (by rfl) (show Blk (w17.alloc (.cells #[.int .i64 0, .int .i64 0, .int .i64 0, .int .i64 0, .int .i64 0, .int .i64 0, .int .i64 0, .int .i64 0, .int .i64 0, .int .i64 0, .int .i64 0, .int .i64 0, .int .i64 0, .int .i64 0, .int .i64 0, .int .i64 0, .int .i64 0, .int .i64 0, .int .i64 0, .int .i64 0, .int .i64 0, .int .i64 0, .int .i64 0, .int .i64 0] 23)) w17.heap.size 23 24 (fun _ => 0) by rw [zcol]; exact Blk.new _ _ _ _) (icol.trans rfl)) ?_; with_reducible rfl)
          (try simp only [Act.put, nA, nB, nC])
          refine wpList_nil ?_
          have b17 : Below w17.heap.size w17 ((w17.alloc (.cells #[.int .i64 0, .int .i64 0, .int .i64 0, .int .i64 0, .int .i64 0, .int .i64 0, .int .i64 0, .int .i64 0, .int .i64 0, .int .i64 0, .int .i64 0, .int .i64 0, .int .i64 0, .int .i64 0, .int .i64 0, .int .i64 0, .int .i64 0, .int .i64 0, .int .i64 0, .int .i64 0, .int .i64 0, .int .i64 0, .int .i64 0, .int .i64 0] 23)).setRow w17.heap.size (arrv 24 (dgF P))) := below_row ((Below.refl _ _).alloc (Nat.le_refl _) _) (Nat.le_refl _) _
          have N17 := Lib.hid (show Blk ((w17.alloc (.cells #[.int .i64 0, .int .i64 0, .int .i64 0, .int .i64 0, .int .i64 0, .int .i64 0, .int .i64 0, .int .i64 0, .int .i64 0, .int .i64 0, .int .i64 0, .int .i64 0, .int .i64 0, .int .i64 0, .int .i64 0, .int .i64 0, .int .i64 0, .int .i64 0, .int .i64 0, .int .i64 0, .int .i64 0, .int .i64 0, .int .i64 0, .int .i64 0] 23)).setRow w17.heap.size (arrv 24 (dgF P))) w17.heap.size 23 24 (dgF P) by rw [zcol]; exact (Blk.new _ _ _ _).setRow _)
          have S17 := Lib.hid (HB2.out.down b17)
          obtain ⟨d17, hd17⟩ : ∃ x, w17.heap.size = x := ⟨_, rfl⟩
          have l17 : bc < d17 := by rw [← hd17]; exact HB2.out.k.fl.lt
          rw [hd17] at N17 S17 ⊢
          generalize (w17.alloc (.cells #[.int .i64 0, .int .i64 0, .int .i64 0, .int .i64 0, .int .i64 0, .int .i64 0, .int .i64 0, .int .i64 0, .int .i64 0, .int .i64 0, .int .i64 0, .int .i64 0, .int .i64 0, .int .i64 0, .int .i64 0, .int .i64 0, .int .i64 0, .int .i64 0, .int .i64 0, .int .i64 0, .int .i64 0, .int .i64 0, .int .i64 0, .int .i64 0] 23)).setRow d17 (arrv 24 (dgF P)) = V17 at *
          clear HB2 hd17 b17 U17
          have DC18' := fun (x : World) (k1 : x.cell? ⟨bc, 0, none⟩ = some (.bool false)) (k2 : x.frozen? ⟨bc, 0, none⟩ = false) => diag_any ⟨bc, 0, none⟩ false A x k1 k2
          rw [show orB (dgB A) 24 = false from cl_orB fun i hi => (CLS.out i hi).1] at DC18'
          have DC18 := Lib.hid DC18'
          clear DC18'
          have C18 := S17.out.a
          go_upto_region 18 with fail
          refine wp_region_lit ?_
          refine wpList_val (v := ?_) rfl ?_ ?_
          rotate_left
          · (go_simp; (try (first | with_reducible rfl | (constructor <;> with_reducible rfl))))
          (try simp only [Act.put, nA, nB, nC])
          refine wpList_val (v := ?_) rfl ?_ ?_
          rotate_left
          · refine Eq.trans (run_load_row 25 (.tmp 11) (by rfl) (ab) (by rfl) _ _ _ _ (C18) Try.underlying25 rfl (icov.trans (by rw [arrv_size]))) ?_; with_reducible rfl
          (try simp only [Act.put, nA, nB, nC])
          refine wpList_step (fun K hK => ?_)
          go_simp
          (refine (DC18.out _ S17.out.k.fl.cell S17.out.k.fl.free).mono ?_); rintro e w18 ⟨rfl, hu⟩; have U18 := Lib.hid hu; have HB3 := Lib.hid (S17.out.upd' hu); clear hu S17 C18 DC18
          (try dsimp only)
          (try simp only [Act.put, nA, nB, nC])
          refine hK _ _ ?_
          clear hK K
          refine wpList_act (v := ?_) (w' := ?_) rfl ?_ ?_
          rotate_left 2
          · (go_simp; (try (first | with_reducible rfl | (constructor <;> with_reducible rfl))))
          (try simp only [Act.put, nA, nB, nC])
          refine wpList_done (w' := ?_) rfl ?_ ?_
          rotate_left
          · (refine Eq.trans (run_store_row 23 (.tmp 13) (.tmp 73) (by rfl) (w18.heap.size) (by rfl) (by rfl) (show Blk (w18.alloc (.cells #[.int .i64 0, .int .i64 0, .int .i64 0, .int .i64 0, .int .i64 0, .int .i64 0, .int .i64 0, .int .i64 0, .int .i64 0, .int .i64 0, .int .i64 0, .int .i64 0, .int .i64 0, .int .i64 0, .int .i64 0, .int .i64 0, .int .i64 0, .int .i64 0, .int .i64 0, .int .i64 0, .int .i64 0, .int .i64 0, .int .i64 0, .int .i64 0] 23)) w18.heap.size 23 24 (fun _ => 0) by rw [zcol]; exact Blk.new _ _ _ _) (icol.trans rfl)) ?_; with_reducible rfl)
          (try simp only [Act.put, nA, nB, nC])
          refine wpList_nil ?_
          have b18 : Below w18.heap.size w18 ((w18.alloc (.cells #[.int .i64 0, .int .i64 0, .int .i64 0, .int .i64 0, .int .i64 0, .int .i64 0, .int .i64 0, .int .i64 0, .int .i64 0, .int .i64 0, .int .i64 0, .int .i64 0, .int .i64 0, .int .i64 0, .int .i64 0, .int .i64 0, .int .i64 0, .int .i64 0, .int .i64 0, .int .i64 0, .int .i64 0, .int .i64 0, .int .i64 0, .int .i64 0] 23)).setRow w18.heap.size (arrv 24 (dgF A))) := below_row ((Below.refl _ _).alloc (Nat.le_refl _) _) (Nat.le_refl _) _
          have N18 := Lib.hid (show Blk ((w18.alloc (.cells #[.int .i64 0, .int .i64 0, .int .i64 0, .int .i64 0, .int .i64 0, .int .i64 0, .int .i64 0, .int .i64 0, .int .i64 0, .int .i64 0, .int .i64 0, .int .i64 0, .int .i64 0, .int .i64 0, .int .i64 0, .int .i64 0, .int .i64 0, .int .i64 0, .int .i64 0, .int .i64 0, .int .i64 0, .int .i64 0, .int .i64 0, .int .i64 0] 23)).setRow w18.heap.size (arrv 24 (dgF A))) w18.heap.size 23 24 (dgF A) by rw [zcol]; exact (Blk.new _ _ _ _).setRow _)
          have S18 := Lib.hid (HB3.out.down b18)
          have X18 := Lib.hid (((N17.out.upd U18.out (by simp only; omega))).below b18)
          obtain ⟨d18, hd18⟩ : ∃ x, w18.heap.size = x := ⟨_, rfl⟩
          have l18 : bc < d18 := by rw [← hd18]; exact HB3.out.k.fl.lt
          rw [hd18] at N18 S18 X18 ⊢
          generalize (w18.alloc (.cells #[.int .i64 0, .int .i64 0, .int .i64 0, .int .i64 0, .int .i64 0, .int .i64 0, .int .i64 0, .int .i64 0, .int .i64 0, .int .i64 0, .int .i64 0, .int .i64 0, .int .i64 0, .int .i64 0, .int .i64 0, .int .i64 0, .int .i64 0, .int .i64 0, .int .i64 0, .int .i64 0, .int .i64 0, .int .i64 0, .int .i64 0, .int .i64 0] 23)).setRow d18 (arrv 24 (dgF A)) = V18 at *
          clear HB3 hd18 b18 U18
          go_wp2_with fail
          go_loopw [14] (fun v wr => ∃ i : Nat, i ≤ 24 ∧ v = .int .i64 i ∧ Hid (Below w.heap.size w wr ∧ Flg wr bc false ∧ Blk wr d17 23 24 (dgF P) ∧ Blk wr d18 23 24 (dgF A))) (fun v _ => 24 - (intOf v).toNat)
          case atStart => exact ⟨0, by omega, rfl, S18.out.k.below, S18.out.k.fl, X18.out, N18.out⟩
          case round =>
            obtain ⟨i, hi, rfl, R⟩ := hrel
            clear S18 X18 N18 N17
            by_cases hlt : i < 24
            · have d1 : decide ((i : Int) < 24) = true := by simp; omega
              have j0 : (0 : Int) ≤ (i : Int) := Int.natCast_nonneg _
              have j1 : (i : Int) < 24 := by omega
              have cl := CLS.out i hlt
              obtain ⟨x, hx⟩ : ∃ x, dgF P i = x := ⟨_, rfl⟩
              obtain ⟨y, hy⟩ : ∃ x, dgF A i = x := ⟨_, rfl⟩
              have hx' : atV P i i = x := hx
              have hy' : atV A i i = y := hy
              rw [hx', hy'] at cl
              have x0 := R.out.2.2.1.cell (i := i) (by omega)
              have y0 := R.out.2.2.2.cell (i := i) (by omega)
              rw [hx] at x0
              rw [hy] at y0
              have xb := ab_le cl.2.2.1
              have fb := ab_le cl.2.2.2
              have qe : Q i = if i = k then n else 0 := by rw [← HQ.out]; rfl
              have qn : 0 ≤ Q i ∧ Q i ≤ 17592186044416 := by rw [qe]; split <;> omega
              have g1 : IntKind.i64.wrap (y - x) = y - x := IntWalk.i64_in _ (by omega)
              have g5 : IntKind.i64.wrap (-4294967296) = -4294967296 := by decide
              clear hx hy hx' hy' cl
              by_cases hik : i = k
              · rw [if_pos hik] at qe
                rw [qe] at fb
                have g2 : IntKind.i64.wrap (y - x - n) = y - x - n := IntWalk.i64_in _ (by omega)
                have g3 : decide (4294967296 < y - x - n) = false := by simp; omega
                have g4 : decide (y - x - n < -4294967296) = false := by simp; omega
                clear fb xb qe qn
                have E := Lib.hid (show ((i : Int) == (k : Int)) = true by simp; omega)
                have HR := Lib.hid R.out
                clear hik R
                go_upto_region 22 with fail
                refine wp_region_M (fun w' => w'.cell? ⟨d18, i, none⟩ = some (.int .i64 y) ∧ w'.cell? ⟨d17, i, none⟩ = some (.int .i64 x)) 7 (by kernel_rfl) ?_ (fun hHeld => ?_)
                · exact ⟨y0, x0⟩
                refine wpAnyM_take 0 (v := ?_) rfl (by kernel_rfl) (fun _ _ _ h => h) (Or.inl ⟨by rfl, ?_⟩) (by assumption) ?_
                rotate_left
                · (intro wx hSw; (try dsimp only at hSw); go_simp; (try with_reducible rfl))
                (try simp only [Act.put, nA, nB, nC])
                refine wpAnyM_take 1 (v := ?_) rfl (by kernel_rfl) (fun _ _ _ h => h) (Or.inl ⟨by rfl, ?_⟩) (by assumption) ?_
                rotate_left
                · (intro wx hSw; (try dsimp only at hSw); go_simp; (try with_reducible rfl))
                (try simp only [Act.put, nA, nB, nC])
                refine wpAnyM_take 2 (v := ?_) rfl (by kernel_rfl) (fun _ _ _ h => h) (Or.inl ⟨by rfl, ?_⟩) (by assumption) ?_
                rotate_left
                · (intro wx hSw; (try dsimp only at hSw); go_simp; (try with_reducible rfl))
                (try simp only [Act.put, nA, nB, nC])
                refine wpAnyM_take 3 (v := ?_) rfl (by kernel_rfl) (fun _ _ _ h => h) (Or.inl ⟨by rfl, ?_⟩) (by assumption) ?_
                rotate_left
                · (intro wx hSw; (try dsimp only at hSw); go_simp; (try with_reducible rfl))
                (try simp only [Act.put, nA, nB, nC])
                refine wpAnyM_take 4 (v := ?_) rfl (by kernel_rfl) (fun _ _ _ h => h) (Or.inl ⟨by rfl, ?_⟩) (by assumption) ?_
                rotate_left
                · (intro wx hSw; (try dsimp only at hSw); go_simp; (try with_reducible rfl))
                (try simp only [Act.put, nA, nB, nC])
                refine wpAnyM_take 5 (v := ?_) rfl (by kernel_rfl) (fun _ _ _ h => h) (Or.inl ⟨by rfl, ?_⟩) (by assumption) ?_
                rotate_left
                · (intro wx hSw; (try dsimp only at hSw); go_simp; (try with_reducible rfl))
                (try simp only [Act.put, nA, nB, nC])
                refine wpAnyM_take 6 (v := ?_) rfl (by kernel_rfl) (fun _ _ _ h => h) (Or.inl ⟨by rfl, ?_⟩) (by assumption) ?_
                rotate_left
                · (intro wx hSw; (try dsimp only at hSw); go_simp; (try with_reducible rfl))
                (try simp only [Act.put, nA, nB, nC])
                refine wpAnyM_one 7 rfl (by kernel_rfl) (fun K hK => ?_)
                go_simp
                refine hK.out _ _ (.inl (by kernel_rfl)) (fun _ => ?_)
                clear hK K
                (try simp only [Act.put, nA, nB, nC])
                refine wpAnyM_done (by kernel_rfl) ?_ _
                go_upto_region 23 with fail
                refine wp_region_lit ?_
                refine wpList_val (v := ?_) rfl ?_ ?_
                rotate_left
                · (go_simp; (try (first | with_reducible rfl | (constructor <;> with_reducible rfl))))
                (try simp only [Act.put, nA, nB, nC])
                refine wpList_val (v := ?_) rfl ?_ ?_
                rotate_left
                · (go_simp; (try (first | with_reducible rfl | (constructor <;> with_reducible rfl))))
                (try simp only [Act.put, nA, nB, nC])
                refine wpList_val (v := ?_) rfl ?_ ?_
                rotate_left
                · (go_simp; rw [E.out])
                (try simp only [Act.put, nA, nB, nC])
                refine wpList_nil ?_
                clear x0 y0
                go_wp2_with fail
                go_roundw
                case rel => exact ⟨i + 1, by omega, by go_num, Below.drew HR.out.1, HR.out.2⟩
                case measure => simp [intOf]; omega
              · rw [if_neg hik] at qe
                rw [qe, Int.sub_zero] at fb
                have g3 : decide (4294967296 < y - x) = false := by simp; omega
                have g4 : decide (y - x < -4294967296) = false := by simp; omega
                clear fb xb qe qn
                have E := Lib.hid (show ((i : Int) == (k : Int)) = false by simp; omega)
                have HR := Lib.hid R.out
                clear hik R
                go_upto_region 22 with fail
                refine wp_region_M (fun w' => w'.cell? ⟨d18, i, none⟩ = some (.int .i64 y) ∧ w'.cell? ⟨d17, i, none⟩ = some (.int .i64 x)) 7 (by kernel_rfl) ?_ (fun hHeld => ?_)
                · exact ⟨y0, x0⟩
                refine wpAnyM_take 0 (v := ?_) rfl (by kernel_rfl) (fun _ _ _ h => h) (Or.inl ⟨by rfl, ?_⟩) (by assumption) ?_
                rotate_left
                · (intro wx hSw; (try dsimp only at hSw); go_simp; (try with_reducible rfl))
                (try simp only [Act.put, nA, nB, nC])
                refine wpAnyM_take 1 (v := ?_) rfl (by kernel_rfl) (fun _ _ _ h => h) (Or.inl ⟨by rfl, ?_⟩) (by assumption) ?_
                rotate_left
                · (intro wx hSw; (try dsimp only at hSw); go_simp; (try with_reducible rfl))
                (try simp only [Act.put, nA, nB, nC])
                refine wpAnyM_take 2 (v := ?_) rfl (by kernel_rfl) (fun _ _ _ h => h) (Or.inl ⟨by rfl, ?_⟩) (by assumption) ?_
                rotate_left
                · (intro wx hSw; (try dsimp only at hSw); go_simp; (try with_reducible rfl))
                (try simp only [Act.put, nA, nB, nC])
                refine wpAnyM_take 3 (v := ?_) rfl (by kernel_rfl) (fun _ _ _ h => h) (Or.inl ⟨by rfl, ?_⟩) (by assumption) ?_
                rotate_left
                · (intro wx hSw; (try dsimp only at hSw); go_simp; (try with_reducible rfl))
                (try simp only [Act.put, nA, nB, nC])
                refine wpAnyM_take 4 (v := ?_) rfl (by kernel_rfl) (fun _ _ _ h => h) (Or.inl ⟨by rfl, ?_⟩) (by assumption) ?_
                rotate_left
                · (intro wx hSw; (try dsimp only at hSw); go_simp; (try with_reducible rfl))
                (try simp only [Act.put, nA, nB, nC])
                refine wpAnyM_take 5 (v := ?_) rfl (by kernel_rfl) (fun _ _ _ h => h) (Or.inl ⟨by rfl, ?_⟩) (by assumption) ?_
                rotate_left
                · (intro wx hSw; (try dsimp only at hSw); go_simp; (try with_reducible rfl))
                (try simp only [Act.put, nA, nB, nC])
                refine wpAnyM_take 6 (v := ?_) rfl (by kernel_rfl) (fun _ _ _ h => h) (Or.inl ⟨by rfl, ?_⟩) (by assumption) ?_
                rotate_left
                · (intro wx hSw; (try dsimp only at hSw); go_simp; (try with_reducible rfl))
                (try simp only [Act.put, nA, nB, nC])
                refine wpAnyM_one 7 rfl (by kernel_rfl) (fun K hK => ?_)
                go_simp
                refine hK.out _ _ (.inl (by kernel_rfl)) (fun _ => ?_)
                clear hK K
                (try simp only [Act.put, nA, nB, nC])
                refine wpAnyM_done (by kernel_rfl) ?_ _
                go_upto_region 23 with fail
                refine wp_region_lit ?_
                refine wpList_val (v := ?_) rfl ?_ ?_
                rotate_left
                · (go_simp; (try (first | with_reducible rfl | (constructor <;> with_reducible rfl))))
                (try simp only [Act.put, nA, nB, nC])
                refine wpList_val (v := ?_) rfl ?_ ?_
                rotate_left
                · (go_simp; (try (first | with_reducible rfl | (constructor <;> with_reducible rfl))))
                (try simp only [Act.put, nA, nB, nC])
                refine wpList_val (v := ?_) rfl ?_ ?_
                rotate_left
                · (go_simp; rw [E.out])
                (try simp only [Act.put, nA, nB, nC])
                refine wpList_nil ?_
                clear x0 y0
                go_wp2_with fail
                go_roundw
                case rel => exact ⟨i + 1, by omega, by go_num, Below.drew HR.out.1, HR.out.2⟩
                case measure => simp [intOf]; omega
            · have hi24 : i = 24 := by omega
              subst hi24
              rw [show ((24 : Nat) : Int) = 24 from rfl]
              have c0 := R.out.2.1.cell
              go_wp2_with fail
              go_ret
              exact ⟨rfl, R.out.1⟩
theorem kee_walk (P : Nat → Int) (k n : Int) (w : World) :
    Calls Try.prog 4 #[.agg (arrv 300 P), .int .i64 k, .int .i64 n] w fun e w' => e = .returned (.bool true) ∧ Below w.heap.size w w' := by
  by_cases h : k < 0 ∨ 23 < k ∨ n < 0 ∨ 17592186044416 < n
  · exact kee_noop P k n w h
  · obtain ⟨a, rfl⟩ : ∃ a : Nat, k = (a : Int) := ⟨k.toNat, by omega⟩
    exact kee_yes P a n w (by omega) (by omega)
end Go.Proofs.Ytcombidoaghlbaa
