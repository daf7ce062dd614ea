/- The walk of the law JacTurned. -/
import Derived.Test.YtanmddenleffaaaS01
import Derived.Test.YtanmddenleffaaaJcT
namespace Go.Proofs.Ytanmddenleffaaa
open Go.RowKit
set_option maxRecDepth 100000
theorem z4q : (#[.int .i64 0, .int .i64 0, .int .i64 0, .int .i64 0] : Array Value) = arrv 4 (fun _ => 0) := by kernel_rfl
theorem z3v : (#[.int .i64 0, .int .i64 0, .int .i64 0] : Array Value) = arrv 3 (fun _ => 0) := by kernel_rfl
/-- The law's own blocks: quaternion, vector, change. -/
structure TnR (Q A D : Nat → Int) (w wr : World) : Prop where
  below : Below w.heap.size w wr
  q : Blk wr w.heap.size 40 4 Q
  a : Blk wr (w.heap.size + 1) 41 3 A
  d : Blk wr (w.heap.size + 1 + 1) 39 4 D
section
variable {Q A D : Nat → Int} {w wr w' : World}
theorem TnR.down (s : TnR Q A D w wr) (u : Below wr.heap.size wr w') : TnR Q A D w w' := ⟨s.below.trans (u.mono s.below.size), s.q.below u, s.a.below u, s.d.below u⟩
theorem TnR.updc (s : TnR Q A D w wr) {bc : Nat} (hb : w.heap.size + 1 + 1 < bc) {h : Bool} (u : Upd ⟨bc, 0, none⟩ h wr w') : TnR Q A D w w' :=
  ⟨own_upd s.below (by simp only; omega) u, s.q.upd u (by simp only; omega), s.a.upd u (by simp only; omega), s.d.upd u (by simp only; omega)⟩
theorem TnR.rowQ (s : TnR Q A D w wr) (F : Nat → Int) : TnR F A D w (wr.setRow w.heap.size (arrv 4 F)) :=
  ⟨below_row s.below (Nat.le_refl _) _, s.q.setRow F, s.a.setRow_other _ (by omega), s.d.setRow_other _ (by omega)⟩
theorem TnR.low (s : TnR Q A D w wr) {b : Nat} (hb : w.heap.size + 1 + 1 < b) (u : Below b wr w') : TnR Q A D w w' := by
  have k : ∀ j, j < b → w'.heap[j]? = wr.heap[j]? := fun j hj => u.block j hj
  exact ⟨s.below.trans (u.mono (by omega)), (k _ (by omega)).trans s.q, (k _ (by omega)).trans s.a, (k _ (by omega)).trans s.d⟩
theorem tn_start (Q A D : Nat → Int) (w : World) : TnR Q A D w (((w.alloc (.cells (arrv 4 Q) 40)).alloc (.cells (arrv 3 A) 41)).alloc (.cells (arrv 4 D) 39)) :=
  ⟨by (repeat (first | with_reducible exact Below.refl _ _ | with_reducible apply Below.drew | (with_reducible refine below_drewN ?_ _) | (with_reducible refine Below.alloc ?_ (by (try simp) <;> omega) _) | (with_reducible refine Below.setCell ?_ (by (try simp) <;> omega) _))), ((Blk.new w _ _ _).alloc _).alloc _, (Blk.new1 w _ _ _ _).alloc _, blk_new2 w _ _ _ _ _⟩
end
/-- The changed quaternion, when k numbers are changed. -/
def tnP (U D : Nat → Int) (k : Nat) : Nat → Int := fun x => if x < k then U x + D x else U x
theorem tnP_next (U D : Nat → Int) (k : Nat) : ∀ x, upd (tnP U D k) k (U k + D k) x = tnP U D (k + 1) x := fun x => by
  unfold upd tnP
  by_cases h : x = k
  · subst h; rw [if_pos rfl, if_pos (by omega)]
  · rw [if_neg h]
    by_cases h2 : x < k
    · rw [if_pos h2, if_pos (by omega)]
    · rw [if_neg h2, if_neg (by omega)]
theorem tn_new {c : Addr} {h : Bool} {E : List Lx} {top : Nat} {w wr : World} (s : LsR c h E top w wr) (d : Nat) (e : wr.heap.size = d) : Blk (wr.alloc (.cells #[.int .i64 0, .int .i64 0, .int .i64 0] 41)) d 41 3 (fun _ => 0) ∧ top ≤ d := by
  subst e; rw [z3v]; exact ⟨Blk.new _ _ _ _, s.le⟩
set_option maxHeartbeats 20000000 in
theorem turn17_walk (Q0 A D : Nat → Int) (w : World) : Calls Try.prog 6 #[.agg (arrv 4 Q0), .agg (arrv 3 A), .agg (arrv 4 D)] w fun e w' => e = .returned (.bool true) ∧ Below w.heap.size w w' := by
  have S0 := Lib.hid (tn_start Q0 A D w)
  have UG := Lib.hid (unit_good Q0).1
  have UC0 := fun (c : Addr) (x : World) (k : x.cell? c = some (.bool false)) (f : x.frozen? c = false) => qunit_any c false Q0 x k f
  obtain ⟨U, hU⟩ : ∃ x, uniV Q0 = x := ⟨_, rfl⟩
  obtain ⟨g, hg⟩ : ∃ x, (false || uniH Q0) = x := ⟨_, rfl⟩
  rw [hU, hg] at UC0
  rw [hU] at UG
  have UC := Lib.hid UC0
  clear UC0 hU hg
  go_enter Try.func6, Try.ntmps6
  go_upto_region 1 with fail
  generalize ((w.alloc (.cells (arrv 4 Q0) 40)).alloc (.cells (arrv 3 A) 41)).alloc (.cells (arrv 4 D) 39) = W0 at *
  go_upto_region 3 with (go_at_call 8; (refine (awake17_any _).mono ?_); rintro e w1 ⟨rfl, hb1⟩; have S1 := Lib.hid (S0.out.down hb1); clear hb1)
  clear S0
  go_upto_region 4 with fail
  obtain ⟨bc, hbc⟩ : ∃ x, w1.heap.size = x := ⟨_, rfl⟩
  have K4 := Lib.hid (Flg.new w1 false)
  have b4 : Below w1.heap.size w1 (w1.alloc (.cells #[.bool false] 25)) := (Below.refl _ _).alloc (Nat.le_refl _) _
  have hl4 : w.heap.size + 1 + 1 < bc := by rw [← hbc]; exact S1.out.d.lt
  have R4 := Lib.hid (S1.out.down b4)
  rw [hbc] at K4 ⊢
  generalize w1.alloc (.cells #[.bool false] 25) = W4 at *
  clear S1 hbc b4
  have Q4 := R4.out.q
  refine wp_region_lit ?_
  refine wpList_val (v := ?_) rfl ?_ ?_
  rotate_left
  · (go_simp; (try (first | with_reducible rfl | (constructor <;> with_reducible rfl))))
  (try simp only [Act.put, nA, nB, nC])
  refine wpList_val (v := ?_) rfl ?_ ?_
  rotate_left
  · (refine Eq.trans (run_load_row 40 (.tmp 3) (by rfl) w.heap.size (by rfl) _ _ _ _ Q4 Try.underlying40 rfl (iqt.trans (by rw [arrv_size]))) ?_; with_reducible rfl)
  (try simp only [Act.put, nA, nB, nC])
  refine wpList_step (fun K hK => ?_)
  go_simp
  (refine (UC.out _ _ K4.out.cell K4.out.free).mono ?_); rintro e w2 ⟨rfl, hu⟩; have R5 := Lib.hid (R4.out.updc hl4 hu); have Q5 := R5.out.q; clear hu R4 K4 Q4 UC
  (try dsimp only)
  (try simp only [Act.put, nA, nB, nC])
  refine hK _ _ ?_
  clear hK K
  refine wpList_done (w' := ?_) rfl ?_ ?_
  rotate_left
  · (refine Eq.trans (run_store_row 40 (.tmp 3) (.tmp 23) (by rfl) (w.heap.size) (by rfl) (by rfl) Q5 (iqt.trans rfl)) ?_; with_reducible rfl)
  (try simp only [Act.put, nA, nB, nC])
  refine wpList_nil ?_
  have R6 := Lib.hid (R5.out.rowQ U)
  generalize w2.setRow w.heap.size (arrv 4 U) = W6 at *
  clear R5 Q5
  have Q6 := R6.out.q
  go_upto_region 5 with fail
  refine wp_region_lit ?_
  refine wpList_val (v := ?_) rfl ?_ ?_
  rotate_left
  · (refine Eq.trans (run_load_row 40 (.tmp 3) (by rfl) w.heap.size (by rfl) _ _ _ _ Q6 Try.underlying40 rfl (iqt.trans (by rw [arrv_size]))) ?_; with_reducible rfl)
  (try simp only [Act.put, nA, nB, nC])
  refine wpList_act (v := ?_) (w' := ?_) rfl ?_ ?_
  rotate_left 2
  · (go_simp; (try (first | with_reducible rfl | (constructor <;> with_reducible rfl))))
  (try simp only [Act.put, nA, nB, nC])
  refine wpList_done (w' := ?_) rfl ?_ ?_
  rotate_left
  · (refine Eq.trans (run_store_row 40 (.tmp 8) (.tmp 24) (by rfl) (W6.heap.size) (by rfl) (by rfl) (show Blk (W6.alloc (.cells #[.int .i64 0, .int .i64 0, .int .i64 0, .int .i64 0] 40)) W6.heap.size 40 4 (fun _ => 0) by rw [z4q]; exact Blk.new _ _ _ _) (iqt.trans rfl)) ?_; with_reducible rfl)
  (try simp only [Act.put, nA, nB, nC])
  refine wpList_nil ?_
  have b7 : Below W6.heap.size W6 ((W6.alloc (.cells #[.int .i64 0, .int .i64 0, .int .i64 0, .int .i64 0] 40)).setRow W6.heap.size (arrv 4 U)) := below_row ((Below.refl _ _).alloc (Nat.le_refl _) _) (Nat.le_refl _) _
  have P7 := Lib.hid (show Blk ((W6.alloc (.cells #[.int .i64 0, .int .i64 0, .int .i64 0, .int .i64 0] 40)).setRow W6.heap.size (arrv 4 U)) W6.heap.size 40 4 U by rw [z4q]; exact (Blk.new _ _ _ _).setRow _)
  have R7 := Lib.hid (R6.out.down b7)
  obtain ⟨pb, hpb⟩ : ∃ x, W6.heap.size = x := ⟨_, rfl⟩
  have lp : w.heap.size + 1 + 1 < pb := by rw [← hpb]; exact R6.out.d.lt
  rw [hpb] at P7 ⊢
  have T7 := Lib.hid (And.intro R7.out (P7.out.congr fun x _ => show U x = tnP U D 0 x by simp [tnP]))
  rw [hpb] at T7
  generalize (W6.alloc (.cells #[.int .i64 0, .int .i64 0, .int .i64 0, .int .i64 0] 40)).setRow pb (arrv 4 U) = W7 at *
  clear R6 Q6 b7 P7 R7 hpb
  go_wp2_with fail
  go_loopw [9] (fun v wr => ∃ k : Nat, k ≤ 4 ∧ v = .int .i64 k ∧ Hid ((TnR U A D w wr ∧ Blk wr pb 40 4 (tnP U D k)) ∧ ∀ i, i < k → ab (D i) ≤ 1048576)) (fun v _ => 4 - (intOf v).toNat)
  case atStart => exact ⟨0, by omega, rfl, T7.out, fun i hi => by omega⟩
  case round =>
    obtain ⟨k, hk, rfl, R⟩ := hrel
    clear T7
    by_cases hkt : k < 4
    · have d2 : decide ((k : Int) < 4) = true := by simp; omega
      have k0 : (0 : Int) ≤ (k : Int) := Int.natCast_nonneg _
      have k1 : (k : Int) < 4 := by omega
      have c0 := R.out.1.1.d.cell (i := k) hkt
      have c1 := R.out.1.2.cell (i := k) hkt
      have c2 := R.out.1.2.free k
      rw [show tnP U D k k = U k by unfold tnP; rw [if_neg (by omega)]] at c1
      have ug := UG.out k hkt
      obtain ⟨y, hy⟩ : ∃ x, D k = x := ⟨_, rfl⟩
      obtain ⟨u, hu⟩ : ∃ x, U k = x := ⟨_, rfl⟩
      rw [hy] at c0
      rw [hu] at c1 ug
      have HY := Lib.hid hy
      have HU := Lib.hid hu
      clear hy hu
      by_cases h1 : y < -1048576
      · have e1 : decide (y < -1048576) = true := by simp; omega
        have RB := Lib.hid R.out.1.1.below
        clear R
        go_upto_region 9 with fail
        go_wp2_with fail
        go_ret
        exact ⟨rfl, RB.out⟩
      · have e1 : decide (y < -1048576) = false := by simp; omega
        by_cases h2 : 1048576 < y
        · have e2 : decide (1048576 < y) = true := by simp; omega
          have RB := Lib.hid R.out.1.1.below
          clear R
          go_upto_region 9 with fail
          go_wp2_with fail
          go_ret
          exact ⟨rfl, RB.out⟩
        · have e2 : decide (1048576 < y) = false := by simp; omega
          have w1' : IntKind.i64.wrap (u + y) = u + y := IntWalk.i64_in _ (by omega)
          have hyb : ab y ≤ 1048576 := le_ab (by omega)
          have HR := Lib.hid (And.intro R.out (And.intro hyb lp))
          clear R h1 h2 ug hyb
          go_upto_region 11 with fail
          refine wp_region_M (fun w' => w'.cell? ⟨pb, k, none⟩ = some (.int .i64 u) ∧ w'.cell? ⟨w.heap.size + 1 + 1, k, none⟩ = some (.int .i64 y)) 9 (by kernel_rfl) ?_ (fun hHeld => ?_)
          · exact ⟨c1, c0⟩
          refine wpAnyM_take 0 (v := ?_) rfl (by kernel_rfl) (fun _ _ _ h => h) (Or.inl ⟨by rfl, ?_⟩) (by assumption) ?_
          rotate_left
          · (intro wx hSw; (try dsimp only at hSw); go_simp; (try with_reducible rfl))
          (try simp only [Act.put, nA, nB, nC])
          refine wpAnyM_take 1 (v := ?_) rfl (by kernel_rfl) (fun _ _ _ h => h) (Or.inl ⟨by rfl, ?_⟩) (by assumption) ?_
          rotate_left
          · (intro wx hSw; (try dsimp only at hSw); go_simp; (try with_reducible rfl))
          (try simp only [Act.put, nA, nB, nC])
          refine wpAnyM_take 2 (v := ?_) rfl (by kernel_rfl) (fun _ _ _ h => h) (Or.inl ⟨by rfl, ?_⟩) (by assumption) ?_
          rotate_left
          · (intro wx hSw; (try dsimp only at hSw); go_simp; (try with_reducible rfl))
          (try simp only [Act.put, nA, nB, nC])
          refine wpAnyM_take 3 (v := ?_) rfl (by kernel_rfl) (fun _ _ _ h => h) (Or.inl ⟨by rfl, ?_⟩) (by assumption) ?_
          rotate_left
          · (intro wx hSw; (try dsimp only at hSw); go_simp; (try with_reducible rfl))
          (try simp only [Act.put, nA, nB, nC])
          refine wpAnyM_take 4 (v := ?_) rfl (by kernel_rfl) (fun _ _ _ h => h) (Or.inl ⟨by rfl, ?_⟩) (by assumption) ?_
          rotate_left
          · (intro wx hSw; (try dsimp only at hSw); go_simp; (try with_reducible rfl))
          (try simp only [Act.put, nA, nB, nC])
          refine wpAnyM_take 5 (v := ?_) rfl (by kernel_rfl) (fun _ _ _ h => h) (Or.inl ⟨by rfl, ?_⟩) (by assumption) ?_
          rotate_left
          · (intro wx hSw; (try dsimp only at hSw); go_simp; (try with_reducible rfl))
          (try simp only [Act.put, nA, nB, nC])
          refine wpAnyM_take 6 (v := ?_) rfl (by kernel_rfl) (fun _ _ _ h => h) (Or.inl ⟨by rfl, ?_⟩) (by assumption) ?_
          rotate_left
          · (intro wx hSw; (try dsimp only at hSw); go_simp; (try with_reducible rfl))
          (try simp only [Act.put, nA, nB, nC])
          refine wpAnyM_take 7 (v := ?_) rfl (by kernel_rfl) (fun _ _ _ h => h) (Or.inl ⟨by rfl, ?_⟩) (by assumption) ?_
          rotate_left
          · (intro wx hSw; (try dsimp only at hSw); go_simp; (try with_reducible rfl))
          (try simp only [Act.put, nA, nB, nC])
          refine wpAnyM_take 8 (v := ?_) rfl (by kernel_rfl) (fun _ _ _ h => h) (Or.inl ⟨by rfl, ?_⟩) (by assumption) ?_
          rotate_left
          · (intro wx hSw; (try dsimp only at hSw); go_simp; (try with_reducible rfl))
          (try simp only [Act.put, nA, nB, nC])
          refine wpAnyM_one 9 rfl (by kernel_rfl) (fun K hK => ?_)
          go_simp
          refine hK.out _ _ (.inl (by kernel_rfl)) (fun _ => ?_)
          clear hK K
          (try simp only [Act.put, nA, nB, nC])
          refine wpAnyM_done (by kernel_rfl) ?_ _
          go_wp2_with fail
          go_roundw
          case rel =>
            refine ⟨k + 1, by omega, by go_num, ⟨?_, ?_⟩, fun i hi => ?_⟩
            · exact HR.out.1.1.1.low HR.out.2.2 ((Below.refl pb wr).drew.setCell (Nat.le_refl _) _)
            · exact ((show Blk wr.drew pb 40 4 (tnP U D k) from HR.out.1.1.2).set k (u + y)).congr fun x _ => by rw [← HU.out, ← HY.out]; exact tnP_next U D k x
            · by_cases h : i = k
              · rw [h, HY.out]; exact HR.out.2.1
              · exact HR.out.1.2 i (by omega)
          case measure => simp [intOf]; omega
    · have hk4 : k = 4 := by omega
      subst hk4
      rw [show ((4 : Nat) : Int) = 4 from rfl]
      have T8 := Lib.hid (And.intro (And.intro R.out.1.1 (R.out.1.2.congr fun x hx => show tnP U D 4 x = U x + D x by unfold tnP; rw [if_pos hx])) R.out.2)
      clear R hk hkt
      obtain ⟨V, hV⟩ : ∃ V : Nat → Int, (fun k => U k + D k) = V := ⟨_, rfl⟩
      have HV := Lib.hid hV
      rw [hV] at T8
      clear hV
      go_wp2_with fail
      go_loopw [10] (fun v wr => ∃ k : Nat, k ≤ 3 ∧ v = .int .i64 k ∧ Hid ((TnR U A D w wr ∧ Blk wr pb 40 4 V) ∧ ∀ i, i < k → ab (A i) ≤ 17179869184)) (fun v _ => 3 - (intOf v).toNat)
      case atStart => exact ⟨0, by omega, rfl, T8.out.1, fun i hi => by omega⟩
      case round =>
        obtain ⟨k, hk, rfl, R⟩ := hrel
        by_cases hkt : k < 3
        · have d2 : decide ((k : Int) < 3) = true := by simp; omega
          have k0 : (0 : Int) ≤ (k : Int) := Int.natCast_nonneg _
          have k1 : (k : Int) < 3 := by omega
          have c0 := R.out.1.1.a.cell (i := k) hkt
          obtain ⟨y, hy⟩ : ∃ x, A k = x := ⟨_, rfl⟩
          rw [hy] at c0
          have HY := Lib.hid hy
          clear hy
          by_cases h1 : y < -17179869184
          · have e1 : decide (y < -17179869184) = true := by simp; omega
            have RB := Lib.hid R.out.1.1.below
            clear R
            go_upto_region 15 with fail
            go_wp2_with fail
            go_ret
            exact ⟨rfl, RB.out⟩
          · have e1 : decide (y < -17179869184) = false := by simp; omega
            by_cases h2 : 17179869184 < y
            · have e2 : decide (17179869184 < y) = true := by simp; omega
              have RB := Lib.hid R.out.1.1.below
              clear R
              go_upto_region 15 with fail
              go_wp2_with fail
              go_ret
              exact ⟨rfl, RB.out⟩
            · have e2 : decide (17179869184 < y) = false := by simp; omega
              have hyb : ab y ≤ 17179869184 := le_ab (by omega)
              have HR := Lib.hid (And.intro R.out hyb)
              clear R h1 h2 hyb
              go_upto_region 15 with fail
              go_wp2_with fail
              go_roundw
              case rel =>
                refine ⟨k + 1, by omega, by go_num, HR.out.1.1, fun i hi => ?_⟩
                by_cases h : i = k
                · rw [h, HY.out]; exact HR.out.2
                · exact HR.out.1.2 i (by omega)
              case measure => simp [intOf]; omega
        · have hk3 : k = 3 := by omega
          subst hk3
          rw [show ((3 : Nat) : Int) = 3 from rfl]
          have uq : ∀ i, i < 4 → ab (U i) ≤ 1073741840 := fun i hi => le_ab (UG.out i hi)
          have L := jt_law uq T8.out.2 R.out.2
          have tf := tu_flag uq R.out.2
          rw [HV.out] at L
          have R9 := Lib.hid R.out.1
          clear R hk hkt T8
          obtain ⟨X, hX⟩ : ∃ x, apV (roV U) A = x := ⟨_, rfl⟩
          obtain ⟨Y, hY⟩ : ∃ x, apV (roV V) A = x := ⟨_, rfl⟩
          obtain ⟨T, hT⟩ : ∃ x, tuF U A = x := ⟨_, rfl⟩
          have OX := fun (c : Addr) (x : World) (k : x.cell? c = some (.bool false)) (f : x.frozen? c = false) => rof_any c false U x k f
          rw [L.1, Bool.false_or] at OX
          have AX := fun (c : Addr) (x : World) (k : x.cell? c = some (.bool false)) (f : x.frozen? c = false) => apply_any c false (roV U) A x k f
          rw [L.2.1, Bool.false_or, hX] at AX
          have OY := fun (c : Addr) (x : World) (k : x.cell? c = some (.bool false)) (f : x.frozen? c = false) => rof_any c false V x k f
          rw [L.2.2.1, Bool.false_or] at OY
          have AY := fun (c : Addr) (x : World) (k : x.cell? c = some (.bool false)) (f : x.frozen? c = false) => apply_any c false (roV V) A x k f
          rw [L.2.2.2.1, Bool.false_or, hY] at AY
          have TC := fun (c : Addr) (x : World) (k : x.cell? c = some (.bool false)) (f : x.frozen? c = false) => jturned_any c false U A x k f
          rw [tf, Bool.false_or, hT] at TC
          have LL := L.2.2.2.2
          rw [hX, hY, hT] at LL
          obtain ⟨MU, hMU⟩ : ∃ x, roV U = x := ⟨_, rfl⟩
          obtain ⟨MV, hMV⟩ : ∃ x, roV V = x := ⟨_, rfl⟩
          rw [hMU] at OX AX
          rw [hMV] at OY AY
          have LL := Lib.hid LL
          clear L hX hY hT tf hMU hMV uq
          go_upto_region 18 with fail
          obtain ⟨ec, hec⟩ : ∃ x, wr.heap.size = x := ⟨_, rfl⟩
          have K9 := Lib.hid (Flg.new wr false)
          have b9 : Below wr.heap.size wr (wr.alloc (.cells #[.bool false] 25)) := (Below.refl _ _).alloc (Nat.le_refl _) _
          have le9 : pb < ec := by rw [← hec]; exact R9.out.2.lt
          have RB := Lib.hid (show TnR U A D w (wr.alloc (.cells #[.bool false] 25)) ∧ Blk (wr.alloc (.cells #[.bool false] 25)) pb 40 4 V ∧ (w.heap.size + 1 + 1 < pb ∧ pb < ec) from ⟨R9.out.1.down b9, R9.out.2.below b9, lp, le9⟩)
          rw [hec] at K9 ⊢
          generalize wr.alloc (.cells #[.bool false] 25) = WC at *
          clear R9 hec b9 le9
          have M := Lib.hid (ls_nil K9.out.cell K9.out.free)
          clear K9
          have OX := Lib.hid (OX ⟨ec, 0, none⟩)
          have AX := Lib.hid (AX ⟨ec, 0, none⟩)
          have OY := Lib.hid (OY ⟨ec, 0, none⟩)
          have AY := Lib.hid (AY ⟨ec, 0, none⟩)
          have TC := Lib.hid (TC ⟨ec, 0, none⟩)
          go_upto_region 18 with fail
          have HS := Lib.hid M.out.drew
          clear M
          (try simp only [Act.put])
          go_cut [12] from 64 to 69 (fun sx wx => ∃ b, sx = .pointer (some ⟨b, 0, none⟩) ∧ Hid (LsR ⟨ec, 0, none⟩ false (⟨b, 41, 3, X⟩ :: []) (b + 1) WC wx))
          case first =>
            refine wp_region_M (fun w' => Blk w' w.heap.size 40 4 U ∧ Blk w' (w.heap.size + 1) 41 3 A) 7 (by kernel_rfl) ?_ (fun hHeld => ?_)
            · exact ⟨RB.out.1.q.upd HS.out.upd (by have := RB.out.2.2; simp only; omega), RB.out.1.a.upd HS.out.upd (by have := RB.out.2.2; simp only; omega)⟩
            refine wpAnyM_take 0 (v := ?_) rfl (by kernel_rfl) (fun _ _ _ h => h) (Or.inl ⟨by rfl, ?_⟩) (by assumption) ?_
            rotate_left
            · (intro wx hSw; (try dsimp only at hSw); go_simp; (try with_reducible rfl))
            (try simp only [Act.put, nA, nB, nC])
            refine wpAnyM_take 1 (v := ?_) rfl (by kernel_rfl) (fun _ _ _ h => h) (Or.inl ⟨by rfl, ?_⟩) (by assumption) ?_
            rotate_left
            · (intro wx hSw; (try dsimp only at hSw); go_simp; (try with_reducible rfl))
            (try simp only [Act.put, nA, nB, nC])
            refine wpAnyM_take 2 (v := ?_) rfl (by kernel_rfl) (fun _ _ _ h => h) (Or.inl ⟨by rfl, ?_⟩) (by assumption) ?_
            rotate_left
            · (intro wx hSw; refine Eq.trans (run_load_row 40 (.tmp 3) (by rfl) w.heap.size (by rfl) _ _ _ _ hSw.1 Try.underlying40 rfl (iqt.trans (by rw [arrv_size]))) ?_; with_reducible rfl)
            (try simp only [Act.put, nA, nB, nC])
            refine wpAnyM_take 4 (v := ?_) rfl (by kernel_rfl) (fun _ _ _ h => h) (Or.inl ⟨by rfl, ?_⟩) (by assumption) ?_
            rotate_left
            · (intro wx hSw; refine Eq.trans (run_load_row 41 (.tmp 4) (by rfl) (w.heap.size + 1) (by rfl) _ _ _ _ hSw.2 Try.underlying41 rfl (iv3.trans (by rw [arrv_size]))) ?_; with_reducible rfl)
            (try simp only [Act.put, nA, nB, nC])
            refine wpAnyM_twoS 3 6 rfl rfl (by kernel_rfl) (fun K hK => ?_) (fun K hK => ?_)
            · go_simp
              (refine (OX.out _ HS.out.cell HS.out.free).mono ?_); rintro e wo ⟨rfl, hu⟩; have hcb := HS.out.cb; have hlm := HS.out.lim; have HS2 := Lib.hid (HS.out.upd' hu); clear HS; have HS := HS2; clear HS2; (try (have HA2 := Lib.hid (And.intro (HA.out.1.upd hu (by have := HA.out.2; omega)) HA.out.2); clear HA; have HA := HA2; clear HA2)); clear hu hcb hlm
              (try dsimp only)
              (try simp only [Act.put, nA, nB, nC])
              clear hHeld
              refine hK.out _ _ ?_ (fun hHeld => ?_)
              · exact ⟨RB.out.1.q.upd HS.out.upd (by have := RB.out.2.2; simp only; omega), RB.out.1.a.upd HS.out.upd (by have := RB.out.2.2; simp only; omega)⟩
              clear hK K
              (try simp only [Act.put, nA, nB, nC])
              refine wpAnyM_twoS 5 6 rfl rfl (by kernel_rfl) (fun K hK => ?_) (fun K hK => ?_)
              · go_simp
                (refine (AX.out _ HS.out.cell HS.out.free).mono ?_); rintro e wp ⟨rfl, hu⟩; have hcb := HS.out.cb; have hlm := HS.out.lim; have HS2 := Lib.hid (HS.out.upd' hu); clear HS; have HS := HS2; clear HS2; (try (have HA2 := Lib.hid (And.intro (HA.out.1.upd hu (by have := HA.out.2; omega)) HA.out.2); clear HA; have HA := HA2; clear HA2)); clear hu hcb hlm
                (try dsimp only)
                (try simp only [Act.put, nA, nB, nC])
                clear hHeld
                refine hK.out _ _ ?_ (fun hHeld => ?_)
                · exact ⟨RB.out.1.q.upd HS.out.upd (by have := RB.out.2.2; simp only; omega), RB.out.1.a.upd HS.out.upd (by have := RB.out.2.2; simp only; omega)⟩
                clear hK K
                (try simp only [Act.put, nA, nB, nC])
                refine wpAnyM_oneS 6 rfl (by kernel_rfl) (fun K hK => ?_)
                go_simp; have HA := Lib.hid (tn_new HS.out _ (by first | (simp; rfl) | rfl)); have HS2 := Lib.hid (HS.out.alloc (.cells #[.int .i64 0, .int .i64 0, .int .i64 0] 41)); clear HS; have HS := HS2; clear HS2
                clear hHeld
                refine hK.out _ _ ?_ (fun hHeld => ?_)
                · exact ⟨RB.out.1.q.upd HS.out.upd (by have := RB.out.2.2; simp only; omega), RB.out.1.a.upd HS.out.upd (by have := RB.out.2.2; simp only; omega)⟩
                clear hK K
                (try simp only [Act.put, nA, nB, nC])
                refine wpAnyM_doneL 7 rfl (by kernel_rfl) (by rfl) (by kernel_rfl) (run_store_row 41 (.tmp 12) (.tmp 69) rfl _ rfl rfl HA.out.1 iv3) ?_
                (try simp only [Act.put, nA, nB, nC])
                refine wpAnyM_done (by kernel_rfl) ?_ _
                (go_wp2_with fail; go_meet; exact ⟨_, rfl, Lib.hid (HS.out.fill HA.out.1 HA.out.2 X)⟩)
              · go_simp; have HA := Lib.hid (tn_new HS.out _ (by first | (simp; rfl) | rfl)); have HS2 := Lib.hid (HS.out.alloc (.cells #[.int .i64 0, .int .i64 0, .int .i64 0] 41)); clear HS; have HS := HS2; clear HS2
                clear hHeld
                refine hK.out _ _ ?_ (fun hHeld => ?_)
                · exact ⟨RB.out.1.q.upd HS.out.upd (by have := RB.out.2.2; simp only; omega), RB.out.1.a.upd HS.out.upd (by have := RB.out.2.2; simp only; omega)⟩
                clear hK K
                (try simp only [Act.put, nA, nB, nC])
                refine wpAnyM_oneS 5 rfl (by kernel_rfl) (fun K hK => ?_)
                go_simp
                (refine (AX.out _ HS.out.cell HS.out.free).mono ?_); rintro e wp ⟨rfl, hu⟩; have hcb := HS.out.cb; have hlm := HS.out.lim; have HS2 := Lib.hid (HS.out.upd' hu); clear HS; have HS := HS2; clear HS2; (try (have HA2 := Lib.hid (And.intro (HA.out.1.upd hu (by have := HA.out.2; omega)) HA.out.2); clear HA; have HA := HA2; clear HA2)); clear hu hcb hlm
                (try dsimp only)
                (try simp only [Act.put, nA, nB, nC])
                clear hHeld
                refine hK.out _ _ ?_ (fun hHeld => ?_)
                · exact ⟨RB.out.1.q.upd HS.out.upd (by have := RB.out.2.2; simp only; omega), RB.out.1.a.upd HS.out.upd (by have := RB.out.2.2; simp only; omega)⟩
                clear hK K
                (try simp only [Act.put, nA, nB, nC])
                refine wpAnyM_doneL 7 rfl (by kernel_rfl) (by rfl) (by kernel_rfl) (run_store_row 41 (.tmp 12) (.tmp 69) rfl _ rfl rfl HA.out.1 iv3) ?_
                (try simp only [Act.put, nA, nB, nC])
                refine wpAnyM_done (by kernel_rfl) ?_ _
                (go_wp2_with fail; go_meet; exact ⟨_, rfl, Lib.hid (HS.out.fill HA.out.1 HA.out.2 X)⟩)
            · go_simp; have HA := Lib.hid (tn_new HS.out _ (by first | (simp; rfl) | rfl)); have HS2 := Lib.hid (HS.out.alloc (.cells #[.int .i64 0, .int .i64 0, .int .i64 0] 41)); clear HS; have HS := HS2; clear HS2
              clear hHeld
              refine hK.out _ _ ?_ (fun hHeld => ?_)
              · exact ⟨RB.out.1.q.upd HS.out.upd (by have := RB.out.2.2; simp only; omega), RB.out.1.a.upd HS.out.upd (by have := RB.out.2.2; simp only; omega)⟩
              clear hK K
              (try simp only [Act.put, nA, nB, nC])
              refine wpAnyM_oneS 3 rfl (by kernel_rfl) (fun K hK => ?_)
              go_simp
              (refine (OX.out _ HS.out.cell HS.out.free).mono ?_); rintro e wo ⟨rfl, hu⟩; have hcb := HS.out.cb; have hlm := HS.out.lim; have HS2 := Lib.hid (HS.out.upd' hu); clear HS; have HS := HS2; clear HS2; (try (have HA2 := Lib.hid (And.intro (HA.out.1.upd hu (by have := HA.out.2; omega)) HA.out.2); clear HA; have HA := HA2; clear HA2)); clear hu hcb hlm
              (try dsimp only)
              (try simp only [Act.put, nA, nB, nC])
              clear hHeld
              refine hK.out _ _ ?_ (fun hHeld => ?_)
              · exact ⟨RB.out.1.q.upd HS.out.upd (by have := RB.out.2.2; simp only; omega), RB.out.1.a.upd HS.out.upd (by have := RB.out.2.2; simp only; omega)⟩
              clear hK K
              (try simp only [Act.put, nA, nB, nC])
              refine wpAnyM_oneS 5 rfl (by kernel_rfl) (fun K hK => ?_)
              go_simp
              (refine (AX.out _ HS.out.cell HS.out.free).mono ?_); rintro e wp ⟨rfl, hu⟩; have hcb := HS.out.cb; have hlm := HS.out.lim; have HS2 := Lib.hid (HS.out.upd' hu); clear HS; have HS := HS2; clear HS2; (try (have HA2 := Lib.hid (And.intro (HA.out.1.upd hu (by have := HA.out.2; omega)) HA.out.2); clear HA; have HA := HA2; clear HA2)); clear hu hcb hlm
              (try dsimp only)
              (try simp only [Act.put, nA, nB, nC])
              clear hHeld
              refine hK.out _ _ ?_ (fun hHeld => ?_)
              · exact ⟨RB.out.1.q.upd HS.out.upd (by have := RB.out.2.2; simp only; omega), RB.out.1.a.upd HS.out.upd (by have := RB.out.2.2; simp only; omega)⟩
              clear hK K
              (try simp only [Act.put, nA, nB, nC])
              refine wpAnyM_doneL 7 rfl (by kernel_rfl) (by rfl) (by kernel_rfl) (run_store_row 41 (.tmp 12) (.tmp 69) rfl _ rfl rfl HA.out.1 iv3) ?_
              (try simp only [Act.put, nA, nB, nC])
              refine wpAnyM_done (by kernel_rfl) ?_ _
              (go_wp2_with fail; go_meet; exact ⟨_, rfl, Lib.hid (HS.out.fill HA.out.1 HA.out.2 X)⟩)
          case rest =>
          obtain ⟨xb, rfl, M⟩ := hcut
          clear HS
          go_upto_region 19 with fail
          have HS := Lib.hid M.out.drew
          clear M
          (try simp only [Act.put])
          go_cut [13] from 70 to 75 (fun sx wx => ∃ b, sx = .pointer (some ⟨b, 0, none⟩) ∧ Hid (LsR ⟨ec, 0, none⟩ false (⟨b, 41, 3, Y⟩ :: [⟨xb, 41, 3, X⟩]) (b + 1) WC wx))
          case first =>
            refine wp_region_M (fun w' => Blk w' pb 40 4 V ∧ Blk w' (w.heap.size + 1) 41 3 A) 7 (by kernel_rfl) ?_ (fun hHeld => ?_)
            · exact ⟨RB.out.2.1.upd HS.out.upd (by have := RB.out.2.2; simp only; omega), RB.out.1.a.upd HS.out.upd (by have := RB.out.2.2; simp only; omega)⟩
            refine wpAnyM_take 0 (v := ?_) rfl (by kernel_rfl) (fun _ _ _ h => h) (Or.inl ⟨by rfl, ?_⟩) (by assumption) ?_
            rotate_left
            · (intro wx hSw; (try dsimp only at hSw); go_simp; (try with_reducible rfl))
            (try simp only [Act.put, nA, nB, nC])
            refine wpAnyM_take 1 (v := ?_) rfl (by kernel_rfl) (fun _ _ _ h => h) (Or.inl ⟨by rfl, ?_⟩) (by assumption) ?_
            rotate_left
            · (intro wx hSw; (try dsimp only at hSw); go_simp; (try with_reducible rfl))
            (try simp only [Act.put, nA, nB, nC])
            refine wpAnyM_take 2 (v := ?_) rfl (by kernel_rfl) (fun _ _ _ h => h) (Or.inl ⟨by rfl, ?_⟩) (by assumption) ?_
            rotate_left
            · (intro wx hSw; refine Eq.trans (run_load_row 40 (.tmp 8) (by rfl) pb (by rfl) _ _ _ _ hSw.1 Try.underlying40 rfl (iqt.trans (by rw [arrv_size]))) ?_; with_reducible rfl)
            (try simp only [Act.put, nA, nB, nC])
            refine wpAnyM_take 4 (v := ?_) rfl (by kernel_rfl) (fun _ _ _ h => h) (Or.inl ⟨by rfl, ?_⟩) (by assumption) ?_
            rotate_left
            · (intro wx hSw; refine Eq.trans (run_load_row 41 (.tmp 4) (by rfl) (w.heap.size + 1) (by rfl) _ _ _ _ hSw.2 Try.underlying41 rfl (iv3.trans (by rw [arrv_size]))) ?_; with_reducible rfl)
            (try simp only [Act.put, nA, nB, nC])
            refine wpAnyM_twoS 3 6 rfl rfl (by kernel_rfl) (fun K hK => ?_) (fun K hK => ?_)
            · go_simp
              (refine (OY.out _ HS.out.cell HS.out.free).mono ?_); rintro e wo ⟨rfl, hu⟩; have hcb := HS.out.cb; have hlm := HS.out.lim; have HS2 := Lib.hid (HS.out.upd' hu); clear HS; have HS := HS2; clear HS2; (try (have HA2 := Lib.hid (And.intro (HA.out.1.upd hu (by have := HA.out.2; omega)) HA.out.2); clear HA; have HA := HA2; clear HA2)); clear hu hcb hlm
              (try dsimp only)
              (try simp only [Act.put, nA, nB, nC])
              clear hHeld
              refine hK.out _ _ ?_ (fun hHeld => ?_)
              · exact ⟨RB.out.2.1.upd HS.out.upd (by have := RB.out.2.2; simp only; omega), RB.out.1.a.upd HS.out.upd (by have := RB.out.2.2; simp only; omega)⟩
              clear hK K
              (try simp only [Act.put, nA, nB, nC])
              refine wpAnyM_twoS 5 6 rfl rfl (by kernel_rfl) (fun K hK => ?_) (fun K hK => ?_)
              · go_simp
                (refine (AY.out _ HS.out.cell HS.out.free).mono ?_); rintro e wp ⟨rfl, hu⟩; have hcb := HS.out.cb; have hlm := HS.out.lim; have HS2 := Lib.hid (HS.out.upd' hu); clear HS; have HS := HS2; clear HS2; (try (have HA2 := Lib.hid (And.intro (HA.out.1.upd hu (by have := HA.out.2; omega)) HA.out.2); clear HA; have HA := HA2; clear HA2)); clear hu hcb hlm
                (try dsimp only)
                (try simp only [Act.put, nA, nB, nC])
                clear hHeld
                refine hK.out _ _ ?_ (fun hHeld => ?_)
                · exact ⟨RB.out.2.1.upd HS.out.upd (by have := RB.out.2.2; simp only; omega), RB.out.1.a.upd HS.out.upd (by have := RB.out.2.2; simp only; omega)⟩
                clear hK K
                (try simp only [Act.put, nA, nB, nC])
                refine wpAnyM_oneS 6 rfl (by kernel_rfl) (fun K hK => ?_)
                go_simp; have HA := Lib.hid (tn_new HS.out _ (by first | (simp; rfl) | rfl)); have HS2 := Lib.hid (HS.out.alloc (.cells #[.int .i64 0, .int .i64 0, .int .i64 0] 41)); clear HS; have HS := HS2; clear HS2
                clear hHeld
                refine hK.out _ _ ?_ (fun hHeld => ?_)
                · exact ⟨RB.out.2.1.upd HS.out.upd (by have := RB.out.2.2; simp only; omega), RB.out.1.a.upd HS.out.upd (by have := RB.out.2.2; simp only; omega)⟩
                clear hK K
                (try simp only [Act.put, nA, nB, nC])
                refine wpAnyM_doneL 7 rfl (by kernel_rfl) (by rfl) (by kernel_rfl) (run_store_row 41 (.tmp 13) (.tmp 75) rfl _ rfl rfl HA.out.1 iv3) ?_
                (try simp only [Act.put, nA, nB, nC])
                refine wpAnyM_done (by kernel_rfl) ?_ _
                (go_wp2_with fail; go_meet; exact ⟨_, rfl, Lib.hid (HS.out.fill HA.out.1 HA.out.2 Y)⟩)
              · go_simp; have HA := Lib.hid (tn_new HS.out _ (by first | (simp; rfl) | rfl)); have HS2 := Lib.hid (HS.out.alloc (.cells #[.int .i64 0, .int .i64 0, .int .i64 0] 41)); clear HS; have HS := HS2; clear HS2
                clear hHeld
                refine hK.out _ _ ?_ (fun hHeld => ?_)
                · exact ⟨RB.out.2.1.upd HS.out.upd (by have := RB.out.2.2; simp only; omega), RB.out.1.a.upd HS.out.upd (by have := RB.out.2.2; simp only; omega)⟩
                clear hK K
                (try simp only [Act.put, nA, nB, nC])
                refine wpAnyM_oneS 5 rfl (by kernel_rfl) (fun K hK => ?_)
                go_simp
                (refine (AY.out _ HS.out.cell HS.out.free).mono ?_); rintro e wp ⟨rfl, hu⟩; have hcb := HS.out.cb; have hlm := HS.out.lim; have HS2 := Lib.hid (HS.out.upd' hu); clear HS; have HS := HS2; clear HS2; (try (have HA2 := Lib.hid (And.intro (HA.out.1.upd hu (by have := HA.out.2; omega)) HA.out.2); clear HA; have HA := HA2; clear HA2)); clear hu hcb hlm
                (try dsimp only)
                (try simp only [Act.put, nA, nB, nC])
                clear hHeld
                refine hK.out _ _ ?_ (fun hHeld => ?_)
                · exact ⟨RB.out.2.1.upd HS.out.upd (by have := RB.out.2.2; simp only; omega), RB.out.1.a.upd HS.out.upd (by have := RB.out.2.2; simp only; omega)⟩
                clear hK K
                (try simp only [Act.put, nA, nB, nC])
                refine wpAnyM_doneL 7 rfl (by kernel_rfl) (by rfl) (by kernel_rfl) (run_store_row 41 (.tmp 13) (.tmp 75) rfl _ rfl rfl HA.out.1 iv3) ?_
                (try simp only [Act.put, nA, nB, nC])
                refine wpAnyM_done (by kernel_rfl) ?_ _
                (go_wp2_with fail; go_meet; exact ⟨_, rfl, Lib.hid (HS.out.fill HA.out.1 HA.out.2 Y)⟩)
            · go_simp; have HA := Lib.hid (tn_new HS.out _ (by first | (simp; rfl) | rfl)); have HS2 := Lib.hid (HS.out.alloc (.cells #[.int .i64 0, .int .i64 0, .int .i64 0] 41)); clear HS; have HS := HS2; clear HS2
              clear hHeld
              refine hK.out _ _ ?_ (fun hHeld => ?_)
              · exact ⟨RB.out.2.1.upd HS.out.upd (by have := RB.out.2.2; simp only; omega), RB.out.1.a.upd HS.out.upd (by have := RB.out.2.2; simp only; omega)⟩
              clear hK K
              (try simp only [Act.put, nA, nB, nC])
              refine wpAnyM_oneS 3 rfl (by kernel_rfl) (fun K hK => ?_)
              go_simp
              (refine (OY.out _ HS.out.cell HS.out.free).mono ?_); rintro e wo ⟨rfl, hu⟩; have hcb := HS.out.cb; have hlm := HS.out.lim; have HS2 := Lib.hid (HS.out.upd' hu); clear HS; have HS := HS2; clear HS2; (try (have HA2 := Lib.hid (And.intro (HA.out.1.upd hu (by have := HA.out.2; omega)) HA.out.2); clear HA; have HA := HA2; clear HA2)); clear hu hcb hlm
              (try dsimp only)
              (try simp only [Act.put, nA, nB, nC])
              clear hHeld
              refine hK.out _ _ ?_ (fun hHeld => ?_)
              · exact ⟨RB.out.2.1.upd HS.out.upd (by have := RB.out.2.2; simp only; omega), RB.out.1.a.upd HS.out.upd (by have := RB.out.2.2; simp only; omega)⟩
              clear hK K
              (try simp only [Act.put, nA, nB, nC])
              refine wpAnyM_oneS 5 rfl (by kernel_rfl) (fun K hK => ?_)
              go_simp
              (refine (AY.out _ HS.out.cell HS.out.free).mono ?_); rintro e wp ⟨rfl, hu⟩; have hcb := HS.out.cb; have hlm := HS.out.lim; have HS2 := Lib.hid (HS.out.upd' hu); clear HS; have HS := HS2; clear HS2; (try (have HA2 := Lib.hid (And.intro (HA.out.1.upd hu (by have := HA.out.2; omega)) HA.out.2); clear HA; have HA := HA2; clear HA2)); clear hu hcb hlm
              (try dsimp only)
              (try simp only [Act.put, nA, nB, nC])
              clear hHeld
              refine hK.out _ _ ?_ (fun hHeld => ?_)
              · exact ⟨RB.out.2.1.upd HS.out.upd (by have := RB.out.2.2; simp only; omega), RB.out.1.a.upd HS.out.upd (by have := RB.out.2.2; simp only; omega)⟩
              clear hK K
              (try simp only [Act.put, nA, nB, nC])
              refine wpAnyM_doneL 7 rfl (by kernel_rfl) (by rfl) (by kernel_rfl) (run_store_row 41 (.tmp 13) (.tmp 75) rfl _ rfl rfl HA.out.1 iv3) ?_
              (try simp only [Act.put, nA, nB, nC])
              refine wpAnyM_done (by kernel_rfl) ?_ _
              (go_wp2_with fail; go_meet; exact ⟨_, rfl, Lib.hid (HS.out.fill HA.out.1 HA.out.2 Y)⟩)
          case rest =>
          obtain ⟨yb, rfl, M⟩ := hcut
          clear HS
          have Q9 := RB.out.1.q.upd M.out.upd (by have := RB.out.2.2; simp only; omega)
          have A9 := RB.out.1.a.upd M.out.upd (by have := RB.out.2.2; simp only; omega)
          go_upto_region 20 with fail
          refine wp_region_lit ?_
          refine wpList_val (v := ?_) rfl ?_ ?_
          rotate_left
          · (go_simp; (try (first | with_reducible rfl | (constructor <;> with_reducible rfl))))
          (try simp only [Act.put, nA, nB, nC])
          refine wpList_val (v := ?_) rfl ?_ ?_
          rotate_left
          · (refine Eq.trans (run_load_row 40 (.tmp 3) (by rfl) w.heap.size (by rfl) _ _ _ _ Q9 Try.underlying40 rfl (iqt.trans (by rw [arrv_size]))) ?_; with_reducible rfl)
          (try simp only [Act.put, nA, nB, nC])
          refine wpList_val (v := ?_) rfl ?_ ?_
          rotate_left
          · (refine Eq.trans (run_load_row 41 (.tmp 4) (by rfl) (w.heap.size + 1) (by rfl) _ _ _ _ A9 Try.underlying41 rfl (iv3.trans (by rw [arrv_size]))) ?_; with_reducible rfl)
          (try simp only [Act.put, nA, nB, nC])
          refine wpList_step (fun K hK => ?_)
          go_simp
          (refine (TC.out _ M.out.cell M.out.free).mono ?_); rintro e w20 ⟨rfl, hu⟩; have M1 := Lib.hid (M.out.upd' hu); clear hu M TC Q9 A9
          (try dsimp only)
          (try simp only [Act.put, nA, nB, nC])
          refine hK _ _ ?_
          clear hK K
          refine wpList_act (v := ?_) (w' := ?_) rfl ?_ ?_
          rotate_left 2
          · (go_simp; (try (first | with_reducible rfl | (constructor <;> with_reducible rfl))))
          (try simp only [Act.put, nA, nB, nC])
          refine wpList_done (w' := ?_) rfl ?_ ?_
          rotate_left
          · (refine Eq.trans (run_store_row 47 (.tmp 14) (.tmp 79) (by rfl) (w20.heap.size) (by rfl) (by rfl) (show Blk (w20.alloc (.cells #[.int .i64 0, .int .i64 0, .int .i64 0, .int .i64 0, .int .i64 0, .int .i64 0, .int .i64 0, .int .i64 0, .int .i64 0, .int .i64 0, .int .i64 0, .int .i64 0] 47)) w20.heap.size 47 12 (fun _ => 0) by rw [zt34]; exact Blk.new _ _ _ _) (it34.trans rfl)) ?_; with_reducible rfl)
          (try simp only [Act.put, nA, nB, nC])
          refine wpList_nil ?_
          have M2 := M1.out.put 47 12 (fun _ => 0) T
          rw [← zt34] at M2
          have M2 := Lib.hid M2
          obtain ⟨tb, htb⟩ : ∃ x, w20.heap.size = x := ⟨_, rfl⟩
          rw [htb] at M2 ⊢
          generalize (w20.alloc (.cells #[.int .i64 0, .int .i64 0, .int .i64 0, .int .i64 0, .int .i64 0, .int .i64 0, .int .i64 0, .int .i64 0, .int .i64 0, .int .i64 0, .int .i64 0, .int .i64 0] 47)).setRow tb (arrv 12 T) = W20 at *
          clear M1 htb
          go_wp2_with fail
          go_loopw [15] (fun v wr => ∃ k : Nat, k ≤ 3 ∧ v = .int .i64 k ∧ Hid (LsR ⟨ec, 0, none⟩ false [⟨tb, 47, 12, T⟩, ⟨yb, 41, 3, Y⟩, ⟨xb, 41, 3, X⟩] (tb + 1) WC wr)) (fun v _ => 3 - (intOf v).toNat)
          case atStart => exact ⟨0, by omega, rfl, M2⟩
          case round =>
            obtain ⟨k, hk, rfl, R⟩ := hrel
            clear M2
            by_cases hkt : k < 3
            · have d2 : decide ((k : Int) < 3) = true := by simp; omega
              have k0 : (0 : Int) ≤ (k : Int) := Int.natCast_nonneg _
              have k1 : (k : Int) < 3 := by omega
              have l := LL.out k hkt
              have DT := fun (x : World) (s : LsR ⟨ec, 0, none⟩ false [⟨tb, 47, 12, T⟩, ⟨yb, 41, 3, Y⟩, ⟨xb, 41, 3, X⟩] (tb + 1) WC x) =>
                dot_any ⟨ec, 0, none⟩ false 30 (fun m => T (k * 4 + m)) D tb (k * 4) 4 (w.heap.size + 1 + 1) 0 4 4 x s.cell s.free (by decide) (by decide) (by decide) (fun m hm => s.e0.cell (i := k * 4 + m) (by omega)) (fun m hm => by rw [Nat.zero_add]; exact (RB.out.1.d.upd s.upd (by have := RB.out.2.2; simp only; omega)).cell hm)
              rw [l.1] at DT
              obtain ⟨x, hx⟩ : ∃ z, X k = z := ⟨_, rfl⟩
              obtain ⟨y, hy⟩ : ∃ z, Y k = z := ⟨_, rfl⟩
              obtain ⟨dd, hdd⟩ : ∃ z, dotV 30 (fun m => T (k * 4 + m)) D 4 = z := ⟨_, rfl⟩
              rw [hx, hy, hdd] at l
              rw [hdd] at DT
              have DT := Lib.hid DT
              have HXY := Lib.hid (And.intro hx hy)
              have l1 := ab_le l.2.1
              have l2 := ab_le l.2.2.1
              have l3 := ab_le l.2.2.2.1
              have l4 := ab_le l.2.2.2.2
              have w1' : IntKind.i64.wrap (y - x) = y - x := IntWalk.i64_in _ (by omega)
              have w2' : IntKind.i64.wrap (y - x - dd) = y - x - dd := IntWalk.i64_in _ (by omega)
              have g3 : decide (1048576 < y - x - dd) = false := by simp; omega
              have g4 : decide (y - x - dd < -1048576) = false := by simp; omega
              clear l l1 l2 l3 l4 hx hy hdd
              have HS := Lib.hid R.out.drew
              clear R
              go_upto_region 24 with fail
              refine wp_region_M (fun w' => w'.cell? ⟨yb, k, none⟩ = some (.int .i64 y) ∧ w'.cell? ⟨xb, k, none⟩ = some (.int .i64 x)) 14 (by kernel_rfl) ?_ (fun hHeld => ?_)
              · (have c1 := HS.out.e1.cell (i := k) hkt; have c2 := HS.out.e2.cell (i := k) hkt; rw [HXY.out.2] at c1; rw [HXY.out.1] at c2; exact ⟨c1, c2⟩)
              refine wpAnyM_take 0 (v := ?_) rfl (by kernel_rfl) (fun _ _ _ h => h) (Or.inl ⟨by rfl, ?_⟩) (by assumption) ?_
              rotate_left
              · (intro wx hSw; (try dsimp only at hSw); go_simp; (try with_reducible rfl))
              (try simp only [Act.put, nA, nB, nC])
              refine wpAnyM_take 1 (v := ?_) rfl (by kernel_rfl) (fun _ _ _ h => h) (Or.inl ⟨by rfl, ?_⟩) (by assumption) ?_
              rotate_left
              · (intro wx hSw; (try dsimp only at hSw); go_simp; (try with_reducible rfl))
              (try simp only [Act.put, nA, nB, nC])
              refine wpAnyM_take 2 (v := ?_) rfl (by kernel_rfl) (fun _ _ _ h => h) (Or.inl ⟨by rfl, ?_⟩) (by assumption) ?_
              rotate_left
              · (intro wx hSw; (try dsimp only at hSw); go_simp; (try with_reducible rfl))
              (try simp only [Act.put, nA, nB, nC])
              refine wpAnyM_take 3 (v := ?_) rfl (by kernel_rfl) (fun _ _ _ h => h) (Or.inl ⟨by rfl, ?_⟩) (by assumption) ?_
              rotate_left
              · (intro wx hSw; (try dsimp only at hSw); go_simp; (try with_reducible rfl))
              (try simp only [Act.put, nA, nB, nC])
              refine wpAnyM_take 4 (v := ?_) rfl (by kernel_rfl) (fun _ _ _ h => h) (Or.inl ⟨by rfl, ?_⟩) (by assumption) ?_
              rotate_left
              · (intro wx hSw; (try dsimp only at hSw); go_simp; (try with_reducible rfl))
              (try simp only [Act.put, nA, nB, nC])
              refine wpAnyM_take 5 (v := ?_) rfl (by kernel_rfl) (fun _ _ _ h => h) (Or.inl ⟨by rfl, ?_⟩) (by assumption) ?_
              rotate_left
              · (intro wx hSw; (try dsimp only at hSw); go_simp; (try with_reducible rfl))
              (try simp only [Act.put, nA, nB, nC])
              refine wpAnyM_take 6 (v := ?_) rfl (by kernel_rfl) (fun _ _ _ h => h) (Or.inl ⟨by rfl, ?_⟩) (by assumption) ?_
              rotate_left
              · (intro wx hSw; (try dsimp only at hSw); go_simp; (try with_reducible rfl))
              (try simp only [Act.put, nA, nB, nC])
              refine wpAnyM_take 7 (v := ?_) rfl (by kernel_rfl) (fun _ _ _ h => h) (Or.inl ⟨by rfl, ?_⟩) (by assumption) ?_
              rotate_left
              · (intro wx hSw; (try dsimp only at hSw); go_simp; (try with_reducible rfl))
              (try simp only [Act.put, nA, nB, nC])
              refine wpAnyM_take 8 (v := ?_) rfl (by kernel_rfl) (fun _ _ _ h => h) (Or.inl ⟨by rfl, ?_⟩) (by assumption) ?_
              rotate_left
              · (intro wx hSw; (try dsimp only at hSw); go_simp; (try with_reducible rfl))
              (try simp only [Act.put, nA, nB, nC])
              refine wpAnyM_take 9 (v := ?_) rfl (by kernel_rfl) (fun _ _ _ h => h) (Or.inl ⟨by rfl, ?_⟩) (by assumption) ?_
              rotate_left
              · (intro wx hSw; (try dsimp only at hSw); go_simp; (try with_reducible rfl))
              (try simp only [Act.put, nA, nB, nC])
              refine wpAnyM_take 10 (v := ?_) rfl (by kernel_rfl) (fun _ _ _ h => h) (Or.inl ⟨by rfl, ?_⟩) (by assumption) ?_
              rotate_left
              · (intro wx hSw; (try dsimp only at hSw); go_simp; (try with_reducible rfl))
              (try simp only [Act.put, nA, nB, nC])
              refine wpAnyM_take 11 (v := ?_) rfl (by kernel_rfl) (fun _ _ _ h => h) (Or.inl ⟨by rfl, ?_⟩) (by assumption) ?_
              rotate_left
              · (intro wx hSw; (try dsimp only at hSw); go_simp; (try with_reducible rfl))
              (try simp only [Act.put, nA, nB, nC])
              refine wpAnyM_oneS 12 rfl (by kernel_rfl) (fun K hK => ?_)
              go_simp
              (refine (DT.out _ HS.out).mono ?_); rintro e wd ⟨rfl, hu⟩; have HS2 := Lib.hid (HS.out.upd' hu); clear HS hu; have HS := HS2; clear HS2
              (try dsimp only)
              (try simp only [Act.put, nA, nB, nC])
              clear hHeld
              refine hK.out _ _ ?_ (fun hHeld => ?_)
              · (have c1 := HS.out.e1.cell (i := k) hkt; have c2 := HS.out.e2.cell (i := k) hkt; rw [HXY.out.2] at c1; rw [HXY.out.1] at c2; exact ⟨c1, c2⟩)
              clear hK K
              (try simp only [Act.put, nA, nB, nC])
              refine wpAnyM_take 13 (v := ?_) rfl (by kernel_rfl) (fun _ _ _ h => h) (Or.inl ⟨by rfl, ?_⟩) (by assumption) ?_
              rotate_left
              · (intro wx hSw; (try dsimp only at hSw); go_simp; (try with_reducible rfl))
              (try simp only [Act.put, nA, nB, nC])
              refine wpAnyM_one 14 rfl (by kernel_rfl) (fun K hK => ?_)
              go_simp
              refine hK.out _ _ (.inl (by kernel_rfl)) (fun _ => ?_)
              clear hK K
              (try simp only [Act.put, nA, nB, nC])
              refine wpAnyM_done (by kernel_rfl) ?_ _
              go_wp2_with fail
              go_roundw
              case rel => exact ⟨k + 1, by omega, by go_num, HS⟩
              case measure => simp [intOf]; omega
            · have hk3 : k = 3 := by omega
              subst hk3
              rw [show ((3 : Nat) : Int) = 3 from rfl]
              have cc := R.out.cell
              have HZ := Lib.hid (own_upd RB.out.1.below (by have := RB.out.2.2; simp only; omega) R.out.upd)
              go_wp2_with fail
              go_ret
              exact ⟨rfl, HZ.out⟩
end Go.Proofs.Ytanmddenleffaaa
