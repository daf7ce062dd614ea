/- The walk of the law ThorntonClose. -/
import Derived.Test.YtcombidoaghlbaaQ07
import Derived.Test.YtcombidoaghlbaaQ09
namespace Go.Proofs.Ytcombidoaghlbaa
open Go.RowKit
set_option maxRecDepth 100000
/-- The law's own blocks: factors, matrix, noise. -/
structure LcR (P F Q : Nat → Int) (w wr : World) : Prop where
  below : Below w.heap.size w wr
  p : Blk wr w.heap.size 25 300 P
  f : Blk wr (w.heap.size + 1) 27 576 F
  q : Blk wr (w.heap.size + 1 + 1) 23 24 Q
section
variable {P F Q : Nat → Int} {w wr w' : World}
theorem LcR.down (s : LcR P F Q w wr) (u : Below wr.heap.size wr w') : LcR P F Q w w' := ⟨s.below.trans (u.mono s.below.size), s.p.below u, s.f.below u, s.q.below u⟩
theorem LcR.setP (s : LcR P F Q w wr) (i : Nat) (x : Int) : LcR (upd P i x) F Q w (wr.setCell ⟨w.heap.size, i, none⟩ (.int .i64 x)) :=
  ⟨s.below.setCell (Nat.le_refl _) _, s.p.set i x, s.f.other (by simp) _, s.q.other (by simp; omega) _⟩
theorem LcR.setF (s : LcR P F Q w wr) (i : Nat) (x : Int) : LcR P (upd F i x) Q w (wr.setCell ⟨w.heap.size + 1, i, none⟩ (.int .i64 x)) :=
  ⟨s.below.setCell (by simp) _, s.p.other (by simp) _, s.f.set i x, s.q.other (by simp) _⟩
theorem LcR.setQ (s : LcR P F Q w wr) (i : Nat) (x : Int) : LcR P F (upd Q i x) w (wr.setCell ⟨w.heap.size + 1 + 1, i, none⟩ (.int .i64 x)) :=
  ⟨s.below.setCell (by simp; omega) _, s.p.other (by simp; omega) _, s.f.other (by simp) _, s.q.set i x⟩
theorem LcR.updc (s : LcR P F Q w wr) {bc : Nat} (hb : w.heap.size + 1 + 1 < bc) {h : Bool} (u : Upd ⟨bc, 0, none⟩ h wr w') : LcR P F Q w w' :=
  ⟨own_upd s.below (by simp only; omega) u, s.p.upd u (by simp only; omega), s.f.upd u (by simp only; omega), s.q.upd u (by simp only; omega)⟩
theorem LcR.congr {P' F' Q' : Nat → Int} (s : LcR P F Q w wr) (e1 : ∀ x, x < 300 → P x = P' x) (e2 : ∀ x, x < 576 → F x = F' x) (e3 : ∀ x, x < 24 → Q x = Q' x) : LcR P' F' Q' w wr := ⟨s.below, s.p.congr e1, s.f.congr e2, s.q.congr e3⟩
theorem lc_start (P F Q : Nat → Int) (w : World) : LcR P F Q w (((w.alloc (.cells (arrv 300 P) 25)).alloc (.cells (arrv 576 F) 27)).alloc (.cells (arrv 24 Q) 23)) :=
  ⟨by (repeat (first | with_reducible exact Below.refl _ _ | with_reducible apply Below.drew | (with_reducible refine below_drewN ?_ _) | (with_reducible refine Below.alloc ?_ (by (try simp) <;> omega) _) | (with_reducible refine Below.setCell ?_ (by (try simp) <;> omega) _))), ((Blk.new w _ _ _).alloc _).alloc _, (Blk.new1 w _ _ _ _).alloc _, blk_new2 w _ _ _ _ _⟩
/-- .. and the flag, the answer, the products of P with a row. -/
structure CsR (bc ob xb : Nat) (P F Q A X : Nat → Int) (w wr : World) : Prop where
  l : LcR P F Q w wr
  fl : Flg wr bc false
  a : Blk wr ob 25 300 A
  x : Blk wr xb 23 24 X
  lt : w.heap.size + 1 + 1 < bc ∧ bc < ob ∧ ob < xb
variable {bc ob xb : Nat} {A X : Nat → Int}
theorem CsR.down (s : CsR bc ob xb P F Q A X w wr) (u : Below wr.heap.size wr w') : CsR bc ob xb P F Q A X w w' := ⟨s.l.down u, s.fl.below u, s.a.below u, s.x.below u, s.lt⟩
theorem CsR.upd' (s : CsR bc ob xb P F Q A X w wr) (u : Upd ⟨bc, 0, none⟩ false wr w') : CsR bc ob xb P F Q A X w w' := by
  have := s.lt
  exact ⟨⟨own_upd s.l.below (by simp only; omega) u, s.l.p.upd u (by simp only; omega), s.l.f.upd u (by simp only; omega), s.l.q.upd u (by simp only; omega)⟩, s.fl.hit u, s.a.upd u (by simp only; omega), s.x.upd u (by simp only; omega), s.lt⟩
theorem CsR.setX (s : CsR bc ob xb P F Q A X w wr) (i : Nat) (y : Int) : CsR bc ob xb P F Q A (upd X i y) w (wr.setCell ⟨xb, i, none⟩ (.int .i64 y)) := by
  have := s.lt
  exact ⟨⟨s.l.below.setCell (by simp; omega) _, s.l.p.other (by simp; omega) _, s.l.f.other (by simp; omega) _, s.l.q.other (by simp; omega) _⟩, s.fl.other (by simp; omega) _, s.a.other (by simp; omega) _, s.x.set i y, s.lt⟩
theorem CsR.congr {X' : Nat → Int} (s : CsR bc ob xb P F Q A X w wr) (e : ∀ x, x < 24 → X x = X' x) : CsR bc ob xb P F Q A X' w wr := ⟨s.l, s.fl, s.a, s.x.congr e, s.lt⟩
theorem CsR.kept (s : CsR bc ob xb P F Q A X w wr) (b : Below (xb + 1) wr w') : CsR bc ob xb P F Q A X w w' := by
  have h := s.lt
  have z := s.x.lt
  have k : ∀ j, j < xb + 1 → w'.heap[j]? = wr.heap[j]? := fun j hj => b.block j hj
  exact ⟨⟨s.l.below.trans (b.mono (by omega)), (k _ (by omega)).trans s.l.p, (k _ (by omega)).trans s.l.f, (k _ (by omega)).trans s.l.q⟩, (k _ (by omega)).trans s.fl, (k _ (by omega)).trans s.a, (k _ (by omega)).trans s.x, s.lt⟩
/-- .. and the row that is built. -/
structure CtR (bc ob xb : Nat) (P F Q A X : Nat → Int) (v : Value) (m : Nat) (L : Nat → Int) (w wr : World) : Prop where
  s : CsR bc ob xb P F Q A X w wr
  own : Own wr (xb + 1) 2 v m L
variable {v : Value} {m : Nat} {L : Nat → Int}
theorem CtR.down (s : CtR bc ob xb P F Q A X v m L w wr) (u : Below wr.heap.size wr w') : CtR bc ob xb P F Q A X v m L w w' := ⟨s.s.down u, s.own.below u⟩
theorem CtR.upd' (s : CtR bc ob xb P F Q A X v m L w wr) (u : Upd ⟨bc, 0, none⟩ false wr w') : CtR bc ob xb P F Q A X v m L w w' := ⟨s.s.upd' u, s.own.upd u (by have := s.s.lt; simp only; omega)⟩
theorem CtR.grown {v' : Value} (s : CtR bc ob xb P F Q A X v m L w wr) (g : wr.grownBy w' v.ownBlock) (ho : Own w' (xb + 1) 2 v' (m + 1) L) : CtR bc ob xb P F Q A X v' (m + 1) L w w' :=
  ⟨s.s.kept (below_grown (Below.refl _ _) g (fun k e => (ownBlock_lt s.own e).1) s.s.x.lt), ho⟩
end
theorem clc_noop (P F Q : Nat → Int) (i j : Int) (w : World) (h : condH P = true ∨ i < 0 ∨ 23 < i ∨ j < 0 ∨ 23 < j) :
    Calls Try.prog 3 #[.agg (arrv 300 P), .agg (arrv 576 F), .agg (arrv 24 Q), .int .i64 i, .int .i64 j] w fun e w' => e = .returned (.bool true) ∧ Below w.heap.size w w' := by
  have S0 := Lib.hid (lc_start P F Q w)
  obtain ⟨g, hg⟩ : ∃ g, condH P = g := ⟨_, rfl⟩
  rw [hg] at h
  have HG := Lib.hid hg
  clear hg
  cases g <;> (have hz : True := trivial)
  all_goals (go_enter Try.func3, Try.ntmps3)
  all_goals (go_upto_region 1 with fail)
  all_goals generalize ((w.alloc (.cells (arrv 300 P) 25)).alloc (.cells (arrv 576 F) 27)).alloc (.cells (arrv 24 Q) 23) = W0 at *
  all_goals go_wp2_with (first | (go_at_call 7; (refine (awake_any _).mono ?_); rintro e w1 ⟨rfl, hb1⟩; have S1 := Lib.hid (S0.out.down hb1); have P1 := S1.out.p; clear hb1) | (refine wpList_load_row rfl 25 _ rfl (w.heap.size) rfl 25 _ (0, 0) _ (P1) Try.underlying25 rfl (icov.trans (by rw [arrv_size])) ?_) | (go_at_call 8; (refine (good_any P _).mono ?_); (rw [HG.out]); rintro e w2 ⟨rfl, hb2⟩; have S2 := Lib.hid (S1.out.down hb2); clear hb2))
  all_goals (first | (exfalso; rcases h with h | h | h | h | h <;> first | (cases h; done) | omega) | (go_ret; exact ⟨rfl, S2.out.below⟩))
set_option maxHeartbeats 4000000 in
theorem clc_yes (P0 F0 Q0 : Nat → Int) (i j : Nat) (w : World) (hg : condH P0 = false) (hi : i < 24) (hj : j < 24) :
    Calls Try.prog 3 #[.agg (arrv 300 P0), .agg (arrv 576 F0), .agg (arrv 24 Q0), .int .i64 (i : Int), .int .i64 (j : Int)] w fun e w' => e = .returned (.bool true) ∧ Below w.heap.size w w' := by
  have C := cl_hyp P0 F0 Q0
  have S0 := Lib.hid (lc_start P0 F0 Q0 w)
  have HG := Lib.hid hg
  have i0 : (0 : Int) ≤ (i : Int) := Int.natCast_nonneg _
  have j0 : (0 : Int) ≤ (j : Int) := Int.natCast_nonneg _
  have i1 : (i : Int) < 24 := by omega
  have j1 : (j : Int) < 24 := by omega
  have t1 : decide ((i : Int) < 0) = false := by simp
  have t2 : decide (23 < (i : Int)) = false := by simp; omega
  have t3 : decide ((j : Int) < 0) = false := by simp
  have t4 : decide (23 < (j : Int)) = false := by simp; omega
  have CL := Lib.hid C
  clear C hg
  go_enter Try.func3, Try.ntmps3
  go_upto_region 1 with fail
  generalize ((w.alloc (.cells (arrv 300 P0) 25)).alloc (.cells (arrv 576 F0) 27)).alloc (.cells (arrv 24 Q0) 23) = W0 at *
  go_upto_region 3 with (go_at_call 7; (refine (awake_any _).mono ?_); rintro e w1 ⟨rfl, hb1⟩; have S1 := Lib.hid (S0.out.down hb1); have P1 := S1.out.p; clear hb1)
  go_upto_region 5 with (first | (refine wpList_load_row rfl 25 _ rfl (w.heap.size) rfl 25 _ (0, 0) _ (P1) Try.underlying25 rfl (icov.trans (by rw [arrv_size])) ?_) | (go_at_call 8; (refine (good_any P0 _).mono ?_); (rw [HG.out]); rintro e w2 ⟨rfl, hb2⟩; have S2 := Lib.hid (S1.out.down hb2); clear hb2))
  clear S0 S1 P1 HG
  go_wp2_with fail
  go_loopw [11] (fun v11 wr => ∃ k : Nat, k ≤ 276 ∧ v11 = .int .i64 k ∧ Hid (LcR (clU P0 k) F0 Q0 w wr)) (fun v _ => 276 - (intOf v).toNat)
  case atStart => exact ⟨0, by omega, rfl, S2.out.congr (fun x _ => by simp [clU]) (fun _ _ => rfl) (fun _ _ => rfl)⟩
  case round =>
    obtain ⟨k, hk, rfl, R⟩ := hrel
    by_cases hlt : k < 276
    · have d1 : decide ((k : Int) < 276) = true := by simp; omega
      have k0 : (0 : Int) ≤ (k : Int) := Int.natCast_nonneg _
      have k1 : (k : Int) < 276 := by omega
      have c0 := R.out.p.cell (i := k) (by omega)
      have c1 := R.out.p.free k
      go_wp2_with fail
      go_roundw
      case rel =>
        refine ⟨k + 1, by omega, by go_num, ?_⟩
        exact (R.out.setP k ((clU P0 k k).tmod 268435456)).congr (fun x _ => clU_next P0 k x) (fun _ _ => rfl) (fun _ _ => rfl)
      case measure => simp [intOf]; omega
    · have hk6 : k = 276 := by omega
      subst hk6
      rw [show ((276 : Nat) : Int) = 276 from rfl]
      have R2 := Lib.hid (R.out.congr (clD_start P0) (F' := clFr F0 0 0) (Q' := clQk Q0 0) (fun x _ => by simp [clFr]) (fun x _ => by simp [clQk]))
      clear R hlt hk
      go_wp2_with fail
      go_loopw [12] (fun v12 wr => ∃ k : Nat, k ≤ 24 ∧ v12 = .int .i64 k ∧ Hid (LcR (clD P0 k) (clFr F0 k 0) (clQk Q0 k) w wr)) (fun v _ => 24 - (intOf v).toNat)
      case atStart => exact ⟨0, by omega, rfl, R2.out⟩
      case round =>
        obtain ⟨k, hk, rfl, R⟩ := hrel
        clear R2
        by_cases hlt : k < 24
        · have d1 : decide ((k : Int) < 24) = true := by simp; omega
          have k0 : (0 : Int) ≤ (k : Int) := Int.natCast_nonneg _
          have k1 : (k : Int) < 24 := by omega
          have c0 := R.out.p.cell (i := 276 + k) (by omega)
          have c1 := R.out.p.free (276 + k)
          have c2 := R.out.q.cell (i := k) (by omega)
          have c3 := R.out.q.free k
          have b1 := and43 (P0 (276 + k))
          have b2 := and39 (Q0 k)
          rw [clD_at] at c0
          rw [clQ_at] at c2
          have w1' : IntKind.i64.wrap (17179869184 + Go.bits .and .i64 (P0 (276 + k)) 8796093022207) = 17179869184 + Go.bits .and .i64 (P0 (276 + k)) 8796093022207 := IntWalk.i64_in _ (by omega)
          have w2' : IntKind.i64.wrap (17179869184 + Go.bits .and .i64 (Q0 k) 549755813887) = 17179869184 + Go.bits .and .i64 (Q0 k) 549755813887 := IntWalk.i64_in _ (by omega)
          go_upto_region 14 with fail
          have S1 := Lib.hid (((R.out.setP (276 + k) (17179869184 + Go.bits .and .i64 (P0 (276 + k)) 8796093022207)).setQ k (17179869184 + Go.bits .and .i64 (Q0 k) 549755813887)).congr (fun x _ => clD_next P0 k x) (fun _ _ => rfl) (fun x _ => clQ_next Q0 k x))
          generalize (wr.setCell ⟨w.heap.size, 276 + k, none⟩ (.int .i64 (17179869184 + Go.bits .and .i64 (P0 (276 + k)) 8796093022207))).setCell ⟨w.heap.size + 1 + 1, k, none⟩ (.int .i64 (17179869184 + Go.bits .and .i64 (Q0 k) 549755813887)) = W1 at *
          clear c0 c1 c2 c3 b1 b2 w1' w2' R
          go_wp2_with fail
          go_loopw [13] (fun v13 wr => ∃ m : Nat, m ≤ 24 ∧ v13 = .int .i64 m ∧ Hid (LcR (clD P0 (k + 1)) (clFr F0 k m) (clQk Q0 (k + 1)) w wr)) (fun v _ => 24 - (intOf v).toNat)
          case atStart => exact ⟨0, by omega, rfl, S1.out⟩
          case round =>
            obtain ⟨m, hm, rfl, Q⟩ := hrel
            clear S1
            by_cases hmt : m < 24
            · have d2 : decide ((m : Int) < 24) = true := by simp; omega
              have m0 : (0 : Int) ≤ (m : Int) := Int.natCast_nonneg _
              have m1 : (m : Int) < 24 := by omega
              have c0 := Q.out.f.cell (i := k * 24 + m) (by omega)
              have c1 := Q.out.f.free (k * 24 + m)
              rw [clF_at F0 hmt] at c0
              go_upto_region 17 with fail
              refine wp_region_M (fun w' => w'.cell? ⟨w.heap.size + 1, k * 24 + m, none⟩ = some (.int .i64 (F0 (k * 24 + m)))) 10 (by kernel_rfl) ?_ (fun hHeld => ?_)
              · exact c0
              refine wpAnyM_take 0 (v := ?_) rfl (by kernel_rfl) (fun _ _ _ h => h) (Or.inl ⟨by rfl, ?_⟩) (by assumption) ?_
              rotate_left
              · (intro wx hSw; (try dsimp only at hSw); go_simp; (try with_reducible rfl))
              (try simp only [Act.put, nA, nB, nC])
              refine wpAnyM_take 1 (v := ?_) rfl (by kernel_rfl) (fun _ _ _ h => h) (Or.inl ⟨by rfl, ?_⟩) (by assumption) ?_
              rotate_left
              · (intro wx hSw; (try dsimp only at hSw); go_simp; (try with_reducible rfl))
              (try simp only [Act.put, nA, nB, nC])
              refine wpAnyM_take 2 (v := ?_) rfl (by kernel_rfl) (fun _ _ _ h => h) (Or.inl ⟨by rfl, ?_⟩) (by assumption) ?_
              rotate_left
              · (intro wx hSw; (try dsimp only at hSw); go_simp; (try with_reducible rfl))
              (try simp only [Act.put, nA, nB, nC])
              refine wpAnyM_take 3 (v := ?_) rfl (by kernel_rfl) (fun _ _ _ h => h) (Or.inl ⟨by rfl, ?_⟩) (by assumption) ?_
              rotate_left
              · (intro wx hSw; (try dsimp only at hSw); go_simp; (try with_reducible rfl))
              (try simp only [Act.put, nA, nB, nC])
              refine wpAnyM_take 4 (v := ?_) rfl (by kernel_rfl) (fun _ _ _ h => h) (Or.inl ⟨by rfl, ?_⟩) (by assumption) ?_
              rotate_left
              · (intro wx hSw; (try dsimp only at hSw); go_simp; (try with_reducible rfl))
              (try simp only [Act.put, nA, nB, nC])
              refine wpAnyM_take 5 (v := ?_) rfl (by kernel_rfl) (fun _ _ _ h => h) (Or.inl ⟨by rfl, ?_⟩) (by assumption) ?_
              rotate_left
              · (intro wx hSw; (try dsimp only at hSw); go_simp; (try with_reducible rfl))
              (try simp only [Act.put, nA, nB, nC])
              refine wpAnyM_take 6 (v := ?_) rfl (by kernel_rfl) (fun _ _ _ h => h) (Or.inl ⟨by rfl, ?_⟩) (by assumption) ?_
              rotate_left
              · (intro wx hSw; (try dsimp only at hSw); go_simp; (try with_reducible rfl))
              (try simp only [Act.put, nA, nB, nC])
              refine wpAnyM_take 7 (v := ?_) rfl (by kernel_rfl) (fun _ _ _ h => h) (Or.inl ⟨by rfl, ?_⟩) (by assumption) ?_
              rotate_left
              · (intro wx hSw; (try dsimp only at hSw); go_simp; (try with_reducible rfl))
              (try simp only [Act.put, nA, nB, nC])
              refine wpAnyM_takeW 8 (v := ?_) rfl (by kernel_rfl) (fun _ _ _ h => h) (Or.inl ⟨by rfl, ?_⟩) (.inr (by assumption)) ?_
              rotate_left
              · (intro wx hSw; (try dsimp only at hSw); go_simp; (try with_reducible rfl))
              (try simp only [Act.put, nA, nB, nC])
              refine wpAnyM_take 9 (v := ?_) rfl (by kernel_rfl) (fun _ _ _ h => h) (Or.inl ⟨by rfl, ?_⟩) (by assumption) ?_
              rotate_left
              · (intro wx hSw; (try dsimp only at hSw); go_simp; (try with_reducible rfl))
              (try simp only [Act.put, nA, nB, nC])
              refine wpAnyM_one 10 rfl (by kernel_rfl) (fun K hK => ?_)
              go_simp
              refine hK.out _ _ (.inl (by kernel_rfl)) (fun _ => ?_)
              clear hK K
              (try simp only [Act.put, nA, nB, nC])
              refine wpAnyM_done (by kernel_rfl) ?_ _
              go_wp2_with fail
              go_roundw
              case rel =>
                refine ⟨m + 1, by omega, by go_num, ?_⟩
                exact (((Q.out.setF (k * 24 + m) ((F0 (k * 24 + m)).tmod 16777216)).down (Below.drew (Below.refl _ _)))).congr (fun _ _ => rfl) (fun x _ => clF_next F0 hmt x) (fun _ _ => rfl)
              case measure => simp [intOf]; omega
            · have hm24 : m = 24 := by omega
              subst hm24
              rw [show ((24 : Nat) : Int) = 24 from rfl]
              have c0 := Q.out.f.cell (i := k * 24 + k) (by omega)
              have c1 := Q.out.f.free (k * 24 + k)
              rw [clF_diag F0 hlt] at c0
              have tb := ab_le (tmod_ab (F0 (k * 24 + k)) (m := 16777216) (by decide))
              have ww : IntKind.i64.wrap ((F0 (k * 24 + k)).tmod 16777216 + 1073741824) = (F0 (k * 24 + k)).tmod 16777216 + 1073741824 := IntWalk.i64_in _ (by omega)
              clear tb
              go_upto_region 18 with fail
              refine wp_region_M (fun w' => w'.cell? ⟨w.heap.size + 1, k * 24 + k, none⟩ = some (.int .i64 ((F0 (k * 24 + k)).tmod 16777216))) 10 (by kernel_rfl) ?_ (fun hHeld => ?_)
              · exact c0
              refine wpAnyM_take 0 (v := ?_) rfl (by kernel_rfl) (fun _ _ _ h => h) (Or.inl ⟨by rfl, ?_⟩) (by assumption) ?_
              rotate_left
              · (intro wx hSw; (try dsimp only at hSw); go_simp; (try with_reducible rfl))
              (try simp only [Act.put, nA, nB, nC])
              refine wpAnyM_take 1 (v := ?_) rfl (by kernel_rfl) (fun _ _ _ h => h) (Or.inl ⟨by rfl, ?_⟩) (by assumption) ?_
              rotate_left
              · (intro wx hSw; (try dsimp only at hSw); go_simp; (try with_reducible rfl))
              (try simp only [Act.put, nA, nB, nC])
              refine wpAnyM_take 2 (v := ?_) rfl (by kernel_rfl) (fun _ _ _ h => h) (Or.inl ⟨by rfl, ?_⟩) (by assumption) ?_
              rotate_left
              · (intro wx hSw; (try dsimp only at hSw); go_simp; (try with_reducible rfl))
              (try simp only [Act.put, nA, nB, nC])
              refine wpAnyM_take 3 (v := ?_) rfl (by kernel_rfl) (fun _ _ _ h => h) (Or.inl ⟨by rfl, ?_⟩) (by assumption) ?_
              rotate_left
              · (intro wx hSw; (try dsimp only at hSw); go_simp; (try with_reducible rfl))
              (try simp only [Act.put, nA, nB, nC])
              refine wpAnyM_take 4 (v := ?_) rfl (by kernel_rfl) (fun _ _ _ h => h) (Or.inl ⟨by rfl, ?_⟩) (by assumption) ?_
              rotate_left
              · (intro wx hSw; (try dsimp only at hSw); go_simp; (try with_reducible rfl))
              (try simp only [Act.put, nA, nB, nC])
              refine wpAnyM_take 5 (v := ?_) rfl (by kernel_rfl) (fun _ _ _ h => h) (Or.inl ⟨by rfl, ?_⟩) (by assumption) ?_
              rotate_left
              · (intro wx hSw; (try dsimp only at hSw); go_simp; (try with_reducible rfl))
              (try simp only [Act.put, nA, nB, nC])
              refine wpAnyM_take 6 (v := ?_) rfl (by kernel_rfl) (fun _ _ _ h => h) (Or.inl ⟨by rfl, ?_⟩) (by assumption) ?_
              rotate_left
              · (intro wx hSw; (try dsimp only at hSw); go_simp; (try with_reducible rfl))
              (try simp only [Act.put, nA, nB, nC])
              refine wpAnyM_take 7 (v := ?_) rfl (by kernel_rfl) (fun _ _ _ h => h) (Or.inl ⟨by rfl, ?_⟩) (by assumption) ?_
              rotate_left
              · (intro wx hSw; (try dsimp only at hSw); go_simp; (try with_reducible rfl))
              (try simp only [Act.put, nA, nB, nC])
              refine wpAnyM_takeW 8 (v := ?_) rfl (by kernel_rfl) (fun _ _ _ h => h) (Or.inl ⟨by rfl, ?_⟩) (.inr (by assumption)) ?_
              rotate_left
              · (intro wx hSw; (try dsimp only at hSw); go_simp; (try with_reducible rfl))
              (try simp only [Act.put, nA, nB, nC])
              refine wpAnyM_take 9 (v := ?_) rfl (by kernel_rfl) (fun _ _ _ h => h) (Or.inl ⟨by rfl, ?_⟩) (by assumption) ?_
              rotate_left
              · (intro wx hSw; (try dsimp only at hSw); go_simp; (try with_reducible rfl))
              (try simp only [Act.put, nA, nB, nC])
              refine wpAnyM_one 10 rfl (by kernel_rfl) (fun K hK => ?_)
              go_simp
              refine hK.out _ _ (.inl (by kernel_rfl)) (fun _ => ?_)
              clear hK K
              (try simp only [Act.put, nA, nB, nC])
              refine wpAnyM_done (by kernel_rfl) ?_ _
              go_wp2_with fail
              go_roundw
              case rel =>
                refine ⟨k + 1, by omega, by go_num, ?_⟩
                exact (((Q.out.setF (k * 24 + k) ((F0 (k * 24 + k)).tmod 16777216 + 1073741824)).down (Below.drew (Below.refl _ _)))).congr (fun _ _ => rfl) (fun x _ => clF_row F0 hlt x) (fun _ _ => rfl)
              case measure => simp [intOf]; omega
        · have hk24 : k = 24 := by omega
          subst hk24
          rw [show ((24 : Nat) : Int) = 24 from rfl]
          have R3 := Lib.hid R.out
          clear R hlt hk
          obtain ⟨P, hP⟩ : ∃ x, clD P0 24 = x := ⟨_, rfl⟩
          obtain ⟨F, hF⟩ : ∃ x, clFr F0 24 0 = x := ⟨_, rfl⟩
          obtain ⟨Q, hQ⟩ : ∃ x, clQk Q0 24 = x := ⟨_, rfl⟩
          rw [hP, hF, hQ] at R3 CL
          clear hP hF hQ
          go_upto_region 20 with fail
          obtain ⟨bc, hbc⟩ : ∃ x, wr.heap.size = x := ⟨_, rfl⟩
          have K4 := Lib.hid (Flg.new wr false)
          have R4 := Lib.hid (R3.out.down ((Below.refl _ _).alloc (Nat.le_refl _) (.cells #[.bool false] 32)))
          have hl4 : w.heap.size + 1 + 1 < bc := by rw [← hbc]; exact R3.out.q.lt
          rw [hbc] at K4 ⊢
          generalize wr.alloc (.cells #[.bool false] 32) = W4 at *
          clear R3 hbc
          have P4 := R4.out.p
          have F4 := R4.out.f
          have Q4 := R4.out.q
          have ST := Lib.hid (step_any ⟨bc, 0, none⟩ false P F Q W4 K4.out.cell K4.out.free)
          rw [CL.out.flag] at ST
          obtain ⟨A, hA⟩ : ∃ x, stepF P F Q = x := ⟨_, rfl⟩
          rw [hA] at ST
          have HA := Lib.hid hA
          clear hA
          refine wp_region_lit ?_
          refine wpList_val (v := ?_) rfl ?_ ?_
          rotate_left
          · (go_simp; (try (first | with_reducible rfl | (constructor <;> with_reducible rfl))))
          (try simp only [Act.put, nA, nB, nC])
          refine wpList_val (v := ?_) rfl ?_ ?_
          rotate_left
          · refine Eq.trans (run_load_row 25 (.tmp 5) (by rfl) (w.heap.size) (by rfl) _ _ _ _ (P4) Try.underlying25 rfl (icov.trans (by rw [arrv_size]))) ?_; with_reducible rfl
          (try simp only [Act.put, nA, nB, nC])
          refine wpList_val (v := ?_) rfl ?_ ?_
          rotate_left
          · (refine Eq.trans (run_load_row 27 (.tmp 6) (by rfl) (w.heap.size + 1) (by rfl) _ _ _ _ F4 Try.underlying27 rfl (imat.trans (by rw [arrv_size]))) ?_; with_reducible rfl)
          (try simp only [Act.put, nA, nB, nC])
          refine wpList_val (v := ?_) rfl ?_ ?_
          rotate_left
          · (refine Eq.trans (run_load_row 23 (.tmp 7) (by rfl) (w.heap.size + 1 + 1) (by rfl) _ _ _ _ Q4 Try.underlying23 rfl (icol.trans (by rw [arrv_size]))) ?_; with_reducible rfl)
          (try simp only [Act.put, nA, nB, nC])
          refine wpList_step (fun K hK => ?_)
          go_simp
          (refine ST.out.mono ?_); rintro e w5 ⟨rfl, hu5⟩; have HU5 := Lib.hid hu5; have R5 : Blk (w5.alloc (.cells Try.zeroCells25 25)) w5.heap.size 25 300 (fun _ => 0) := (by rw [zcov]; exact Blk.new _ _ _ _); clear hu5
          (try dsimp only)
          (try simp only [Act.put, nA, nB, nC])
          refine hK _ _ ?_
          clear hK K
          refine wpList_act (v := ?_) (w' := ?_) rfl ?_ ?_
          rotate_left 2
          · (go_simp; (try (first | with_reducible rfl | (constructor <;> with_reducible rfl))))
          (try simp only [Act.put, nA, nB, nC])
          refine wpList_done (w' := ?_) rfl ?_ ?_
          rotate_left
          · refine Eq.trans (run_store_row 25 (.tmp 15) (.tmp 105) (by rfl) (w5.heap.size) (by rfl) (by rfl) (R5) (icov.trans rfl)) ?_; with_reducible rfl
          (try simp only [Act.put, nA, nB, nC])
          refine wpList_nil ?_
          go_upto_region 21 with fail
          obtain ⟨W6, hW6⟩ : ∃ x, x = ((w5.alloc (.cells Try.zeroCells25 25)).setRow w5.heap.size (arrv 300 A)) := ⟨_, rfl⟩
          rw [← hW6]
          have M6 := Lib.hid (Blk.made zcov A hW6)
          have R6 := Lib.hid ((R4.out.updc hl4 HU5.out).down M6.out.2)
          have K6 := Lib.hid ((K4.out.hit HU5.out).below M6.out.2)
          have hl5 : bc < w5.heap.size := by have := K4.out.lt; have := HU5.out.size; omega
          have hl6 : w5.heap.size < W6.heap.size := M6.out.1.lt
          have A6 := Lib.hid M6.out.1
          clear hW6 M6 HU5 R5 P4 F4 Q4 R4 K4
          obtain ⟨ob, hob⟩ : ∃ x, w5.heap.size = x := ⟨_, rfl⟩
          rw [hob] at A6 hl5 hl6 ⊢
          clear hob
          have c0 := K6.out.cell
          go_upto_region 25 with fail
          obtain ⟨xb, hxb⟩ : ∃ x, W6.heap.size = x := ⟨_, rfl⟩
          have X7 := Lib.hid (show Blk (W6.alloc (.cells #[.int .i64 0, .int .i64 0, .int .i64 0, .int .i64 0, .int .i64 0, .int .i64 0, .int .i64 0, .int .i64 0, .int .i64 0, .int .i64 0, .int .i64 0, .int .i64 0, .int .i64 0, .int .i64 0, .int .i64 0, .int .i64 0, .int .i64 0, .int .i64 0, .int .i64 0, .int .i64 0, .int .i64 0, .int .i64 0, .int .i64 0, .int .i64 0] 23)) W6.heap.size 23 24 (fun _ => 0) by rw [zcol]; exact Blk.new _ _ _ _)
          have bl7 : Below W6.heap.size W6 (W6.alloc (.cells #[.int .i64 0, .int .i64 0, .int .i64 0, .int .i64 0, .int .i64 0, .int .i64 0, .int .i64 0, .int .i64 0, .int .i64 0, .int .i64 0, .int .i64 0, .int .i64 0, .int .i64 0, .int .i64 0, .int .i64 0, .int .i64 0, .int .i64 0, .int .i64 0, .int .i64 0, .int .i64 0, .int .i64 0, .int .i64 0, .int .i64 0, .int .i64 0] 23)) := (Below.refl _ _).alloc (Nat.le_refl _) _
          rw [hxb] at hl6
          have S7 := Lib.hid (show CsR bc ob xb P F Q A (fun _ => 0) w (W6.alloc (.cells #[.int .i64 0, .int .i64 0, .int .i64 0, .int .i64 0, .int .i64 0, .int .i64 0, .int .i64 0, .int .i64 0, .int .i64 0, .int .i64 0, .int .i64 0, .int .i64 0, .int .i64 0, .int .i64 0, .int .i64 0, .int .i64 0, .int .i64 0, .int .i64 0, .int .i64 0, .int .i64 0, .int .i64 0, .int .i64 0, .int .i64 0, .int .i64 0] 23)) from ⟨R6.out.down bl7, K6.out.below bl7, A6.out.below bl7, by rw [← hxb]; exact X7.out, hl4, hl5, hl6⟩)
          rw [hxb]
          generalize W6.alloc (.cells #[.int .i64 0, .int .i64 0, .int .i64 0, .int .i64 0, .int .i64 0, .int .i64 0, .int .i64 0, .int .i64 0, .int .i64 0, .int .i64 0, .int .i64 0, .int .i64 0, .int .i64 0, .int .i64 0, .int .i64 0, .int .i64 0, .int .i64 0, .int .i64 0, .int .i64 0, .int .i64 0, .int .i64 0, .int .i64 0, .int .i64 0, .int .i64 0] 23) = W7 at *
          clear X7 bl7 hxb R6 K6 A6 c0
          go_wp2_with fail
          go_loopw [18] (fun v18 wr => ∃ k : Nat, k ≤ 24 ∧ v18 = .int .i64 k ∧ Hid (CsR bc ob xb P F Q A (fun t => if t < k then clX P F j t else 0) w wr)) (fun v _ => 24 - (intOf v).toNat)
          case atStart => exact ⟨0, by omega, rfl, S7.out.congr fun x _ => by simp⟩
          case round =>
            obtain ⟨k, hk, rfl, R⟩ := hrel
            clear S7
            by_cases hlt : k < 24
            · have d1 : decide ((k : Int) < 24) = true := by simp; omega
              have k0 : (0 : Int) ≤ (k : Int) := Int.natCast_nonneg _
              have k1 : (k : Int) < 24 := by omega
              obtain ⟨X, hX⟩ : ∃ x, (fun t => if t < k then clX P F j t else 0) = x := ⟨_, rfl⟩
              rw [hX] at R
              have HX := Lib.hid hX
              clear hX
              go_wp2_with fail
              go_loopw [19, 20] (fun v19 v20 wr => ∃ (m : Nat) (v : Value), m ≤ 24 ∧ v20 = .int .i64 m ∧ v = v19 ∧ Hid (CtR bc ob xb P F Q A X v m (fun t => atV P k t) w wr)) (fun _ v _ => 24 - (intOf v).toNat)
              case atStart => exact ⟨0, _, by omega, rfl, rfl, R.out, Own.nil _ _ _ _⟩
              case round =>
                obtain ⟨m, v, hm, rfl, rfl, Q⟩ := hrel
                clear R
                by_cases hmt : m < 24
                · have d2 : decide ((m : Int) < 24) = true := by simp; omega
                  have m0 : (0 : Int) ≤ (m : Int) := Int.natCast_nonneg _
                  have m1 : (m : Int) < 24 := by omega
                  have P5 := Q.out.s.l.p
                  have AT := Lib.hid (at_any ⟨bc, 0, none⟩ false P k m wr Q.out.s.fl.cell Q.out.s.fl.free hlt hmt)
                  rw [(CL.out.at_p hlt hmt).2.1] at AT
                  obtain ⟨y, hy⟩ : ∃ y, atV P k m = y := ⟨_, rfl⟩
                  rw [hy] at AT
                  have HY := Lib.hid hy
                  clear hy
                  go_upto_region 32 with fail
                  refine wp_region_lit ?_
                  refine wpList_val (v := ?_) rfl ?_ ?_
                  rotate_left
                  · (go_simp; (try (first | with_reducible rfl | (constructor <;> with_reducible rfl))))
                  (try simp only [Act.put, nA, nB, nC])
                  refine wpList_val (v := ?_) rfl ?_ ?_
                  rotate_left
                  · (go_simp; (try (first | with_reducible rfl | (constructor <;> with_reducible rfl))))
                  (try simp only [Act.put, nA, nB, nC])
                  refine wpList_val (v := ?_) rfl ?_ ?_
                  rotate_left
                  · refine Eq.trans (run_load_row 25 (.tmp 5) (by rfl) (w.heap.size) (by rfl) _ _ _ _ (P5) Try.underlying25 rfl (icov.trans (by rw [arrv_size]))) ?_; with_reducible rfl
                  (try simp only [Act.put, nA, nB, nC])
                  refine wpList_val (v := ?_) rfl ?_ ?_
                  rotate_left
                  · (go_simp; (try (first | with_reducible rfl | (constructor <;> with_reducible rfl))))
                  (try simp only [Act.put, nA, nB, nC])
                  refine wpList_val (v := ?_) rfl ?_ ?_
                  rotate_left
                  · (go_simp; (try (first | with_reducible rfl | (constructor <;> with_reducible rfl))))
                  (try simp only [Act.put, nA, nB, nC])
                  refine wpList_step (fun K hK => ?_)
                  go_simp
                  (refine AT.out.mono ?_); rintro e w8 ⟨rfl, hu8⟩; have H8 := Lib.hid (Q.out.upd' hu8); clear hu8 P5 AT; have HA8 := Lib.hid (H8.out.down ((Below.refl _ _).alloc (Nat.le_refl _) (.cells #[.int .i64 y] 2))); have hbz := H8.out.s.x.lt
                  (try dsimp only)
                  (try simp only [Act.put, nA, nB, nC])
                  refine hK _ _ ?_
                  clear hK K
                  refine wpList_act (v := ?_) (w' := ?_) rfl ?_ ?_
                  rotate_left 2
                  · (go_simp; (try (first | with_reducible rfl | (constructor <;> with_reducible rfl))))
                  (try simp only [Act.put, nA, nB, nC])
                  (refine wpList_app1 rfl (.tmp 118) (.tmp 124) rfl (xb + 1) rfl HA8.out.own w8.heap.size 1 y rfl (by simp [go_sem]) (by omega) (by simp; omega) (w8.heap.size + 1) (by simp) ?_; intro g1 cp1 w9 hO1 hg1 hat1 hlt1; have HG := Lib.hid (HA8.out.grown hg1 (hO1.congr (snoc_fun HY.out.symm))); clear hO1 hg1 hat1 hlt1 HA8 H8 hbz)
                  refine wpList_val (v := ?_) rfl ?_ ?_
                  rotate_left
                  · (go_simp; (try (first | with_reducible rfl | (constructor <;> with_reducible rfl))))
                  (try simp only [Act.put, nA, nB, nC])
                  refine wpList_nil ?_
                  go_wp2_with fail
                  go_roundw
                  case rel => exact ⟨m + 1, _, by omega, by go_num, rfl, HG⟩
                  case measure => simp [intOf]; omega
                · have hm24 : m = 24 := by omega
                  subst hm24
                  rw [show ((24 : Nat) : Int) = 24 from rfl]
                  obtain ⟨g, cp, rfl, hgb, hgl, hgc⟩ := Q.out.own.slc (by decide)
                  have DT := Lib.hid (dot_any ⟨bc, 0, none⟩ false 30 (fun b => atV P k b) (rowF 24 F j) g 0 cp (w.heap.size + 1) (j * 24) 24 24 wr Q.out.s.fl.cell Q.out.s.fl.free (by decide) (by decide) (by decide) (fun b hb => hgc b hb) (fun b hb => Q.out.s.l.f.cell (i := j * 24 + b) (by omega)))
                  have xe := CL.out.x_err hj hlt
                  rw [show dotV 30 (fun b => atV P k b) (rowF 24 F j) 24 = clX P F j k from rfl, xe.2.1] at DT
                  obtain ⟨y, hy⟩ : ∃ y, clX P F j k = y := ⟨_, rfl⟩
                  rw [hy] at DT
                  have HY := Lib.hid hy
                  clear hy xe hgc
                  go_upto_region 33 with fail
                  refine wp_region_lit ?_
                  refine wpList_val (v := ?_) rfl ?_ ?_
                  rotate_left
                  · (go_simp; (try (first | with_reducible rfl | (constructor <;> with_reducible rfl))))
                  (try simp only [Act.put, nA, nB, nC])
                  refine wpList_val (v := ?_) rfl ?_ ?_
                  rotate_left
                  · (go_simp; (try (first | with_reducible rfl | (constructor <;> with_reducible rfl))))
                  (try simp only [Act.put, nA, nB, nC])
                  refine wpList_val (v := ?_) rfl ?_ ?_
                  rotate_left
                  · (go_simp; (try (first | with_reducible rfl | (constructor <;> with_reducible rfl))))
                  (try simp only [Act.put, nA, nB, nC])
                  refine wpList_val (v := ?_) rfl ?_ ?_
                  rotate_left
                  · (go_simp; (try (first | with_reducible rfl | (constructor <;> with_reducible rfl))))
                  (try simp only [Act.put, nA, nB, nC])
                  refine wpList_val (v := ?_) rfl ?_ ?_
                  rotate_left
                  · (go_simp; (try (first | with_reducible rfl | (constructor <;> with_reducible rfl))))
                  (try simp only [Act.put, nA, nB, nC])
                  refine wpList_val (v := ?_) rfl ?_ ?_
                  rotate_left
                  · (go_simp; (try (first | with_reducible rfl | (constructor <;> with_reducible rfl))))
                  (try simp only [Act.put, nA, nB, nC])
                  refine wpList_step (fun K hK => ?_)
                  go_simp
                  (refine DT.out.mono ?_); rintro e w8 ⟨rfl, hu8⟩; have H8 := Lib.hid (Q.out.s.upd' hu8); clear hu8 DT; have x0 := H8.out.x.cell (i := k) (by omega); have x1 := H8.out.x.free k
                  (try dsimp only)
                  (try simp only [Act.put, nA, nB, nC])
                  refine hK _ _ ?_
                  clear hK K
                  refine wpList_val (v := ?_) rfl ?_ ?_
                  rotate_left
                  · (go_simp; (try (first | with_reducible rfl | (constructor <;> with_reducible rfl))))
                  (try simp only [Act.put, nA, nB, nC])
                  refine wpList_done (w' := ?_) rfl ?_ ?_
                  rotate_left
                  · (go_simp; (try (first | with_reducible rfl | (constructor <;> with_reducible rfl))))
                  (try simp only [Act.put, nA, nB, nC])
                  refine wpList_nil ?_
                  go_wp2_with fail
                  go_roundw
                  case rel =>
                    refine ⟨k + 1, by omega, by go_num, (H8.out.setX k y).congr fun t _ => ?_⟩
                    rw [← HX.out, ← HY.out]
                    simp only [Go.Proofs.Ytcombidoaghlbaa.upd]
                    by_cases h1 : t = k
                    · rw [if_pos h1, if_pos (by omega), h1]
                    · rw [if_neg h1]
                      by_cases h2 : t < k
                      · rw [if_pos h2, if_pos (by omega)]
                      · rw [if_neg h2, if_neg (by omega)]
                  case measure => simp [intOf]; omega
            · have hk24 : k = 24 := by omega
              subst hk24
              rw [show ((24 : Nat) : Int) = 24 from rfl]
              have R9 := Lib.hid (R.out.congr (X' := clX P F j) fun t ht => if_pos ht)
              clear R hlt hk
              have fin := CL.out.close hi hj
              have sm := CL.out.sum_err hi hj
              rw [HA.out] at fin
              have DT := Lib.hid (dot_any ⟨bc, 0, none⟩ false 30 (rowF 24 F i) (clX P F j) (w.heap.size + 1) (i * 24) 24 xb 0 24 24 wr.drew R9.out.fl.cell R9.out.fl.free (by decide) (by decide) (by decide) (fun b hb => R9.out.l.f.cell (i := i * 24 + b) (by omega)) (fun b hb => by rw [Nat.zero_add]; exact R9.out.x.cell hb))
              rw [sm.2.1] at DT
              have AT := Lib.hid (fun (x : World) (k1 : x.cell? ⟨bc, 0, none⟩ = some (.bool false)) (k2 : x.frozen? ⟨bc, 0, none⟩ = false) => at_any ⟨bc, 0, none⟩ false A i j x k1 k2 hi hj)
              rw [fin.1] at AT
              obtain ⟨S, hS⟩ : ∃ x, dotV 30 (rowF 24 F i) (clX P F j) 24 = x := ⟨_, rfl⟩
              obtain ⟨T, hT⟩ : ∃ x, atV A i j = x := ⟨_, rfl⟩
              rw [hS] at sm fin DT
              rw [hT] at fin AT
              clear hS hT
              have qb := CL.out.q i hi
              have sb := ab_le sm.2.2
              have tb := ab_le fin.2.1
              have fb := ab_le fin.2.2
              clear sm fin
              have HD := Lib.hid R9.out
              go_upto_region 34 with fail
              refine wp_region_M (fun _ => True) 6 (by kernel_rfl) ?_ (fun hHeld => ?_)
              · trivial
              refine wpAnyM_take 0 (v := ?_) rfl (by kernel_rfl) (fun _ _ _ h => h) (Or.inl ⟨by rfl, ?_⟩) (by assumption) ?_
              rotate_left
              · (intro wx hSw; (try dsimp only at hSw); go_simp; (try with_reducible rfl))
              (try simp only [Act.put, nA, nB, nC])
              refine wpAnyM_take 1 (v := ?_) rfl (by kernel_rfl) (fun _ _ _ h => h) (Or.inl ⟨by rfl, ?_⟩) (by assumption) ?_
              rotate_left
              · (intro wx hSw; (try dsimp only at hSw); go_simp; (try with_reducible rfl))
              (try simp only [Act.put, nA, nB, nC])
              refine wpAnyM_take 2 (v := ?_) rfl (by kernel_rfl) (fun _ _ _ h => h) (Or.inl ⟨by rfl, ?_⟩) (by assumption) ?_
              rotate_left
              · (intro wx hSw; (try dsimp only at hSw); go_simp; (try with_reducible rfl))
              (try simp only [Act.put, nA, nB, nC])
              refine wpAnyM_take 3 (v := ?_) rfl (by kernel_rfl) (fun _ _ _ h => h) (Or.inl ⟨by rfl, ?_⟩) (by assumption) ?_
              rotate_left
              · (intro wx hSw; (try dsimp only at hSw); go_simp; (try with_reducible rfl))
              (try simp only [Act.put, nA, nB, nC])
              refine wpAnyM_take 4 (v := ?_) rfl (by kernel_rfl) (fun _ _ _ h => h) (Or.inl ⟨by rfl, ?_⟩) (by assumption) ?_
              rotate_left
              · (intro wx hSw; (try dsimp only at hSw); go_simp; (try with_reducible rfl))
              (try simp only [Act.put, nA, nB, nC])
              refine wpAnyM_oneS 5 rfl (by kernel_rfl) (fun K hK => ?_)
              go_simp
              (refine DT.out.mono ?_); rintro e w8 ⟨rfl, hu8⟩; have H8 := Lib.hid ((HD.out.down (Below.drew (Below.refl _ _))).upd' hu8); clear hu8 DT
              (try dsimp only)
              (try simp only [Act.put, nA, nB, nC])
              clear hHeld
              refine hK.out _ _ ?_ (fun hHeld => ?_)
              · trivial
              clear hK K
              (try simp only [Act.put, nA, nB, nC])
              refine wpAnyM_one 6 rfl (by kernel_rfl) (fun K hK => ?_)
              go_simp
              refine hK.out _ _ (.inl (by kernel_rfl)) (fun _ => ?_)
              clear hK K
              (try simp only [Act.put, nA, nB, nC])
              refine wpAnyM_done (by kernel_rfl) ?_ _
              clear R9 HD
              have A8 := H8.out.a
              have c8 := H8.out.l.q.cell (i := i) hi
              have lam : (if i = j then Q i else 0) = if i = j then Q i else 0 := rfl
              by_cases hij : i = j
              · subst hij
                rw [if_pos rfl] at fb
                obtain ⟨qi, hqi⟩ : ∃ x, Q i = x := ⟨_, rfl⟩
                rw [hqi] at c8 fb qb
                clear hqi
                have g1 : IntKind.i64.wrap (S + qi) = S + qi := IntWalk.i64_in _ (by omega)
                have g2 : IntKind.i64.wrap (T - (S + qi)) = T - (S + qi) := IntWalk.i64_in _ (by omega)
                have g3 : decide (T - (S + qi) ≤ 4294967296) = true := by simp; omega
                have g4 : decide (-4294967296 ≤ T - (S + qi)) = true := by simp; omega
                have g5 : IntKind.i64.wrap (-4294967296) = -4294967296 := by decide
                clear fb sb tb qb lam
                have AC := AT.out w8 H8.out.fl.cell H8.out.fl.free
                go_upto_region 37 with fail
                refine wp_region_lit ?_
                refine wpList_val (v := ?_) rfl ?_ ?_
                rotate_left
                · (go_simp; (try (first | with_reducible rfl | (constructor <;> with_reducible rfl))))
                (try simp only [Act.put, nA, nB, nC])
                refine wpList_val (v := ?_) rfl ?_ ?_
                rotate_left
                · refine Eq.trans (run_load_row 25 (.tmp 15) (by rfl) (ob) (by rfl) _ _ _ _ (A8) Try.underlying25 rfl (icov.trans (by rw [arrv_size]))) ?_; with_reducible rfl
                (try simp only [Act.put, nA, nB, nC])
                refine wpList_val (v := ?_) rfl ?_ ?_
                rotate_left
                · (go_simp; (try (first | with_reducible rfl | (constructor <;> with_reducible rfl))))
                (try simp only [Act.put, nA, nB, nC])
                refine wpList_val (v := ?_) rfl ?_ ?_
                rotate_left
                · (go_simp; (try (first | with_reducible rfl | (constructor <;> with_reducible rfl))))
                (try simp only [Act.put, nA, nB, nC])
                refine wpList_step (fun K hK => ?_)
                go_simp
                (refine AC.mono ?_); rintro e w9 ⟨rfl, hu9⟩; have H9 := Lib.hid (H8.out.upd' hu9); clear hu9
                (try dsimp only)
                (try simp only [Act.put, nA, nB, nC])
                refine hK _ _ ?_
                clear hK K
                refine wpList_val (v := ?_) rfl ?_ ?_
                rotate_left
                · (go_simp; (try (first | with_reducible rfl | (constructor <;> with_reducible rfl))))
                (try simp only [Act.put, nA, nB, nC])
                refine wpList_val (v := ?_) rfl ?_ ?_
                rotate_left
                · (go_simp; (try (first | with_reducible rfl | (constructor <;> with_reducible rfl))))
                (try simp only [Act.put, nA, nB, nC])
                refine wpList_val (v := ?_) rfl ?_ ?_
                rotate_left
                · (go_simp; (try (first | with_reducible rfl | (constructor <;> with_reducible rfl))))
                (try simp only [Act.put, nA, nB, nC])
                refine wpList_nil ?_
                go_wp2_with fail
                go_ret
                exact ⟨rfl, H9.out.l.below⟩
              · rw [if_neg hij] at fb
                have hne : decide ((i : Int) = (j : Int)) = false := by simp; omega
                have g2 : IntKind.i64.wrap (T - S) = T - S := IntWalk.i64_in _ (by omega)
                have g3 : decide (T - S ≤ 4294967296) = true := by simp; omega
                have g4 : decide (-4294967296 ≤ T - S) = true := by simp; omega
                have g5 : IntKind.i64.wrap (-4294967296) = -4294967296 := by decide
                clear fb sb tb qb lam c8
                have AC := AT.out w8 H8.out.fl.cell H8.out.fl.free
                go_upto_region 37 with fail
                refine wp_region_lit ?_
                refine wpList_val (v := ?_) rfl ?_ ?_
                rotate_left
                · (go_simp; (try (first | with_reducible rfl | (constructor <;> with_reducible rfl))))
                (try simp only [Act.put, nA, nB, nC])
                refine wpList_val (v := ?_) rfl ?_ ?_
                rotate_left
                · refine Eq.trans (run_load_row 25 (.tmp 15) (by rfl) (ob) (by rfl) _ _ _ _ (A8) Try.underlying25 rfl (icov.trans (by rw [arrv_size]))) ?_; with_reducible rfl
                (try simp only [Act.put, nA, nB, nC])
                refine wpList_val (v := ?_) rfl ?_ ?_
                rotate_left
                · (go_simp; (try (first | with_reducible rfl | (constructor <;> with_reducible rfl))))
                (try simp only [Act.put, nA, nB, nC])
                refine wpList_val (v := ?_) rfl ?_ ?_
                rotate_left
                · (go_simp; (try (first | with_reducible rfl | (constructor <;> with_reducible rfl))))
                (try simp only [Act.put, nA, nB, nC])
                refine wpList_step (fun K hK => ?_)
                go_simp
                (refine AC.mono ?_); rintro e w9 ⟨rfl, hu9⟩; have H9 := Lib.hid (H8.out.upd' hu9); clear hu9
                (try dsimp only)
                (try simp only [Act.put, nA, nB, nC])
                refine hK _ _ ?_
                clear hK K
                refine wpList_val (v := ?_) rfl ?_ ?_
                rotate_left
                · (go_simp; (try (first | with_reducible rfl | (constructor <;> with_reducible rfl))))
                (try simp only [Act.put, nA, nB, nC])
                refine wpList_val (v := ?_) rfl ?_ ?_
                rotate_left
                · (go_simp; (try (first | with_reducible rfl | (constructor <;> with_reducible rfl))))
                (try simp only [Act.put, nA, nB, nC])
                refine wpList_val (v := ?_) rfl ?_ ?_
                rotate_left
                · (go_simp; (try (first | with_reducible rfl | (constructor <;> with_reducible rfl))))
                (try simp only [Act.put, nA, nB, nC])
                refine wpList_nil ?_
                go_wp2_with fail
                go_ret
                exact ⟨rfl, H9.out.l.below⟩
theorem clc_walk (P F Q : Nat → Int) (i j : Int) (w : World) :
    Calls Try.prog 3 #[.agg (arrv 300 P), .agg (arrv 576 F), .agg (arrv 24 Q), .int .i64 i, .int .i64 j] w fun e w' => e = .returned (.bool true) ∧ Below w.heap.size w w' := by
  by_cases h : condH P = true ∨ i < 0 ∨ 23 < i ∨ j < 0 ∨ 23 < j
  · exact clc_noop P F Q i j w h
  · obtain ⟨a, rfl⟩ : ∃ a : Nat, i = (a : Int) := ⟨i.toNat, by omega⟩
    obtain ⟨b, rfl⟩ : ∃ b : Nat, j = (b : Int) := ⟨j.toNat, by omega⟩
    exact clc_yes P F Q a b w (by simpa using fun e => h (.inl e)) (by omega) (by omega)
end Go.Proofs.Ytcombidoaghlbaa
