/- Contracts of the program's functions and plain laws, part 8: they hold for all arguments. -/
import Derived.Test.YtcibndlpnfikhaaQ07
import Derived.Test.YtcibndlpnfikhaaQ05
import Derived.Test.YtcibndlpnfikhaaQ02
/- Contracts of the reference's estimate (1): Att, turn, Bound, Part. -/
namespace Go.Proofs.Ytcibndlpnfikhaa
open Go.RowKit
set_option maxRecDepth 100000
theorem ratt_any (S : Nat → Int) (w : World) : Calls Try.prog 8 #[.agg (arrv 24 S)] w fun e w' => e = .returned (.agg (arrv 4 S)) ∧ Below w.heap.size w w' := by
  have P0 : Blk ((w.alloc (.cells (arrv 24 S) 23)).alloc (.cells #[.int .i64 0, .int .i64 0, .int .i64 0, .int .i64 0] 30)) w.heap.size 23 24 S := (Blk.new w _ 24 _).alloc _
  have R0 : Blk ((w.alloc (.cells (arrv 24 S) 23)).alloc (.cells #[.int .i64 0, .int .i64 0, .int .i64 0, .int .i64 0] 30)) (w.heap.size + 1) 30 4 (fun _ => 0) := by rw [zq4]; exact Blk.new1 w _ _ 4 _
  have B0 : Below w.heap.size w ((w.alloc (.cells (arrv 24 S) 23)).alloc (.cells #[.int .i64 0, .int .i64 0, .int .i64 0, .int .i64 0] 30)) := by (repeat (first | with_reducible exact Below.refl _ _ | with_reducible apply Below.drew | (with_reducible refine below_drewN ?_ _) | (with_reducible refine Below.alloc ?_ (by (try simp) <;> omega) _) | (with_reducible refine Below.setCell ?_ (by (try simp) <;> omega) _)))
  have q0 := P0.cell (i := 0) (by decide)
  have q1 := P0.cell (i := 1) (by decide)
  have q2 := P0.cell (i := 2) (by decide)
  have q3 := P0.cell (i := 3) (by decide)
  have B0 := Lib.hid B0
  have R0 := Lib.hid R0
  clear P0
  go_enter Try.func8, Try.ntmps8
  go_upto_region 1 with fail
  generalize (w.alloc (.cells (arrv 24 S) 23)).alloc (.cells #[.int .i64 0, .int .i64 0, .int .i64 0, .int .i64 0] 30) = W0 at *
  have RB := R0.out
  refine wp_region_lit ?_
  refine wpList_val (v := ?_) rfl ?_ ?_
  rotate_left
  · (go_simp; (try (first | with_reducible rfl | (constructor <;> with_reducible rfl))))
  (try simp only [Act.put, List.setIfInBounds_toArray, List.set_cons_zero, List.set_cons_succ])
  refine wpList_val (v := ?_) rfl ?_ ?_
  rotate_left
  · (go_simp; (try (first | with_reducible rfl | (constructor <;> with_reducible rfl))))
  (try simp only [Act.put, List.setIfInBounds_toArray, List.set_cons_zero, List.set_cons_succ])
  refine wpList_val (v := ?_) rfl ?_ ?_
  rotate_left
  · (go_simp; (try (first | with_reducible rfl | (constructor <;> with_reducible rfl))))
  (try simp only [Act.put, List.setIfInBounds_toArray, List.set_cons_zero, List.set_cons_succ])
  refine wpList_val (v := ?_) rfl ?_ ?_
  rotate_left
  · (go_simp; (try (first | with_reducible rfl | (constructor <;> with_reducible rfl))))
  (try simp only [Act.put, List.setIfInBounds_toArray, List.set_cons_zero, List.set_cons_succ])
  refine wpList_val (v := ?_) rfl ?_ ?_
  rotate_left
  · (go_simp; (try (first | with_reducible rfl | (constructor <;> with_reducible rfl))))
  (try simp only [Act.put, List.setIfInBounds_toArray, List.set_cons_zero, List.set_cons_succ])
  refine wpList_val (v := ?_) rfl ?_ ?_
  rotate_left
  · (go_simp; (try (first | with_reducible rfl | (constructor <;> with_reducible rfl))))
  (try simp only [Act.put, List.setIfInBounds_toArray, List.set_cons_zero, List.set_cons_succ])
  refine wpList_val (v := ?_) rfl ?_ ?_
  rotate_left
  · (go_simp; (try (first | with_reducible rfl | (constructor <;> with_reducible rfl))))
  (try simp only [Act.put, List.setIfInBounds_toArray, List.set_cons_zero, List.set_cons_succ])
  refine wpList_val (v := ?_) rfl ?_ ?_
  rotate_left
  · (go_simp; (try (first | with_reducible rfl | (constructor <;> with_reducible rfl))))
  (try simp only [Act.put, List.setIfInBounds_toArray, List.set_cons_zero, List.set_cons_succ])
  refine wpList_val (v := ?_) rfl ?_ ?_
  rotate_left
  · (go_simp; rw [show (#[.int .i64 (S 0), .int .i64 (S 1), .int .i64 (S 2), .int .i64 (S 3)] : Array Value) = arrv 4 S from arr4 S]; (try with_reducible rfl))
  (try simp only [Act.put, List.setIfInBounds_toArray, List.set_cons_zero, List.set_cons_succ])
  refine wpList_done (w' := ?_) rfl ?_ ?_
  rotate_left
  · refine Eq.trans (run_store_row 30 (.tmp 2) (.tmp 11) (by rfl) (w.heap.size + 1) (by rfl) (by rfl) (RB) (irq.trans rfl)) ?_; with_reducible rfl
  (try simp only [Act.put, List.setIfInBounds_toArray, List.set_cons_zero, List.set_cons_succ])
  refine wpList_nil ?_
  go_wp2_with fail
  refine bodyPost_ret (results_cell_row Try.results8 _ _ (w.heap.size + 1) 30 (arrv 4 S) (0, 0) _ rfl (setRow_heap _ _ _ _ _ _ RB) Try.underlying30 rfl (irq.trans (by rw [arrv_size]))) rfl ⟨rfl, ?_⟩
  exact below_row B0.out (by omega) _
structure RtuR (S Q g : Nat → Int) (w wr : World) : Prop where
  below : Below w.heap.size w wr
  sB : Blk wr w.heap.size 23 24 g
  qB : Blk wr (w.heap.size + 1) 30 4 Q
  rB : Blk wr (w.heap.size + 1 + 1) 23 24 (fun _ => 0)
def rtuK (S Q : Nat → Int) (k : Nat) : Nat → Int := fun i => if i < k then Q i else S i
set_option maxHeartbeats 2000000 in
theorem rturn_any (S Q : Nat → Int) (w : World) : Calls Try.prog 25 #[.agg (arrv 24 S), .agg (arrv 4 Q)] w fun e w' => e = .returned (.agg (arrv 24 (turnd S Q))) ∧ Below w.heap.size w w' := by
  go_enter Try.func25, Try.ntmps25
  go_upto_region 1 with fail
  have R0 : Hid (RtuR S Q (rtuK S Q 0) w (((w.alloc (.cells (arrv 24 S) 23)).alloc (.cells (arrv 4 Q) 30)).alloc (.cells #[.int .i64 0, .int .i64 0, .int .i64 0, .int .i64 0, .int .i64 0, .int .i64 0, .int .i64 0, .int .i64 0, .int .i64 0, .int .i64 0, .int .i64 0, .int .i64 0, .int .i64 0, .int .i64 0, .int .i64 0, .int .i64 0, .int .i64 0, .int .i64 0, .int .i64 0, .int .i64 0, .int .i64 0, .int .i64 0, .int .i64 0, .int .i64 0] 23))) := Lib.hid
    ⟨by (repeat (first | with_reducible exact Below.refl _ _ | with_reducible apply Below.drew | (with_reducible refine below_drewN ?_ _) | (with_reducible refine Below.alloc ?_ (by (try simp) <;> omega) _) | (with_reducible refine Below.setCell ?_ (by (try simp) <;> omega) _))), (((Blk.new w _ _ _).alloc _).alloc _).congr fun i hi => by simp [rtuK], (Blk.new1 w _ _ _ _).alloc _, by rw [zvec24]; exact blk_new2 w _ _ _ _ _⟩
  generalize ((w.alloc (.cells (arrv 24 S) 23)).alloc (.cells (arrv 4 Q) 30)).alloc (.cells #[.int .i64 0, .int .i64 0, .int .i64 0, .int .i64 0, .int .i64 0, .int .i64 0, .int .i64 0, .int .i64 0, .int .i64 0, .int .i64 0, .int .i64 0, .int .i64 0, .int .i64 0, .int .i64 0, .int .i64 0, .int .i64 0, .int .i64 0, .int .i64 0, .int .i64 0, .int .i64 0, .int .i64 0, .int .i64 0, .int .i64 0, .int .i64 0] 23) = W0 at *
  go_wp2_with fail
  go_loopw [5] (fun i wr => ∃ k : Nat, k ≤ 4 ∧ i = .int .i64 k ∧ Hid (RtuR S Q (rtuK S Q k) w wr)) (fun i _ => 4 - (intOf i).toNat)
  case atStart => exact ⟨0, by omega, rfl, R0⟩
  case round =>
    obtain ⟨k, hk, rfl, R⟩ := hrel
    clear R0
    by_cases hlt : k < 4
    · have d1 : decide ((k : Int) < 4) = true := by simp; omega
      have k0 : (0 : Int) ≤ (k : Int) := Int.natCast_nonneg _
      have k1 : (k : Int) < 4 := by omega
      have q0 := R.out.qB.cell (i := k) (by omega)
      have v0 := R.out.sB.cell (i := k) (by omega)
      have v1 := R.out.sB.free k
      go_wp2_with fail
      go_roundw
      case rel =>
        refine ⟨k + 1, by omega, by go_num, Lib.hid ⟨R.out.below.setCell (Nat.le_refl _) _, (R.out.sB.set _ _).congr fun i hi => ?_, R.out.qB.other (by simp) _, R.out.rB.other (by simp; omega) _⟩⟩
        simp only [Go.Proofs.Ytcibndlpnfikhaa.upd, rtuK]
        by_cases h : i = k
        · subst h; rw [if_pos rfl, if_pos (by omega)]
        · rw [if_neg h]; split <;> split <;> first | rfl | omega
      case measure => simp [intOf]; omega
    · have hk4 : k = 4 := by omega
      subst hk4
      rw [show ((4 : Nat) : Int) = 4 from rfl]
      have V := R.out.sB
      have X := R.out.rB
      have B := Lib.hid R.out.below
      clear R hk hlt
      go_wp2_with (first | (refine wpList_load_row rfl 23 _ rfl (w.heap.size) rfl 23 _ (0, 0) _ (V) Try.underlying23 rfl (ist.trans (by rw [arrv_size])) ?_) | (refine wpList_store_row rfl 23 _ _ rfl (w.heap.size + 1 + 1) _ rfl rfl 23 _ (X) (ist.trans (by rw [arrv_size])) (by rw [arrv_size, arrv_size]) (oneCell_arrv _ _) ?_))
      refine bodyPost_ret (results_cell_row Try.results25 _ _ (w.heap.size + 1 + 1) 23 (arrv 24 (rtuK S Q 4)) (0, 0) _ rfl (setRow_heap _ _ _ _ _ _ X) Try.underlying23 rfl (ist.trans (by rw [arrv_size]))) rfl ⟨?_, below_row B.out (by omega) _⟩
      exact congrArg (fun x => Ending.returned (Value.agg x)) (arrv_congr fun i hi => rfl)
theorem rbound_any (i : Nat) (w : World) (hi : i < 24) : Calls Try.prog 12 #[.int .i64 i] w fun e w' => e = .returned (.int .i64 (boxF i)) ∧ w = w' := by
  by_cases h0 : i < 4
  · have d0 : decide ((i : Int) < 4) = true := by simp; omega
    have e : boxF i = 1073741840 := by unfold boxF; rw [if_pos (by omega)]
    rw [e]
    go_enter Try.func12, Try.ntmps12
    go_wp2_with fail
    go_ret
    exact ⟨rfl, rfl⟩
  · have d0 : decide ((i : Int) < 4) = false := by simp; omega
    by_cases h1 : i < 7
    · have d1 : decide ((i : Int) < 7) = true := by simp; omega
      have e : boxF i = 549755813888 := by unfold boxF; (repeat rw [if_neg (by omega)]); rw [if_pos (by omega)]
      rw [e]
      go_enter Try.func12, Try.ntmps12
      go_wp2_with fail
      go_ret
      exact ⟨rfl, rfl⟩
    · have d1 : decide ((i : Int) < 7) = false := by simp; omega
      by_cases h2 : i < 10
      · have d2 : decide ((i : Int) < 10) = true := by simp; omega
        have e : boxF i = 9007199254740992 := by unfold boxF; (repeat rw [if_neg (by omega)]); rw [if_pos (by omega)]
        rw [e]
        go_enter Try.func12, Try.ntmps12
        go_wp2_with fail
        go_ret
        exact ⟨rfl, rfl⟩
      · have d2 : decide ((i : Int) < 10) = false := by simp; omega
        by_cases h3 : i < 13
        · have d3 : decide ((i : Int) < 13) = true := by simp; omega
          have e : boxF i = 134217728 := by unfold boxF; (repeat rw [if_neg (by omega)]); rw [if_pos (by omega)]
          rw [e]
          go_enter Try.func12, Try.ntmps12
          go_wp2_with fail
          go_ret
          exact ⟨rfl, rfl⟩
        · have d3 : decide ((i : Int) < 13) = false := by simp; omega
          by_cases h4 : i < 16
          · have d4 : decide ((i : Int) < 16) = true := by simp; omega
            have e : boxF i = 1073741824 := by unfold boxF; (repeat rw [if_neg (by omega)]); rw [if_pos (by omega)]
            rw [e]
            go_enter Try.func12, Try.ntmps12
            go_wp2_with fail
            go_ret
            exact ⟨rfl, rfl⟩
          · have d4 : decide ((i : Int) < 16) = false := by simp; omega
            by_cases h5 : i < 22
            · have d5 : decide ((i : Int) < 22) = true := by simp; omega
              have e : boxF i = 2147483648 := by unfold boxF; (repeat rw [if_neg (by omega)]); rw [if_pos (by omega)]
              rw [e]
              go_enter Try.func12, Try.ntmps12
              go_wp2_with fail
              go_ret
              exact ⟨rfl, rfl⟩
            · have d5 : decide ((i : Int) < 22) = false := by simp; omega
              have e : boxF i = 137438953472 := by unfold boxF; (repeat rw [if_neg (by omega)])
              rw [e]
              go_enter Try.func12, Try.ntmps12
              go_wp2_with fail
              go_ret
              exact ⟨rfl, rfl⟩
theorem irv3 : (Try.prog.info? 35).map (·.size) = some 3 := by kernel_rfl
structure RptR (B : Nat) (S g : Nat → Int) (w wr : World) : Prop where
  below : Below w.heap.size w wr
  sB : Blk wr w.heap.size 23 24 S
  rB : Blk wr (w.heap.size + 1) 35 3 (fun _ => 0)
  vB : Blk wr (w.heap.size + 1 + 1) 35 3 g
set_option maxHeartbeats 2000000 in
theorem rpart_any (S : Nat → Int) (a : Int) (w : World) (a0 : -1000000 ≤ a) (a1 : a ≤ 1000000) :
    Calls Try.prog 10 #[.agg (arrv 24 S), .int .i64 a] w fun e w' => e = .returned (.agg (arrv 3 (partF S a))) ∧ Below w.heap.size w w' := by
  go_enter Try.func10, Try.ntmps10
  go_upto_region 2 with fail
  have R0 : Hid (RptR 0 S (partI S a 0) w (((w.alloc (.cells (arrv 24 S) 23)).alloc (.cells #[.int .i64 0, .int .i64 0, .int .i64 0] 35)).alloc (.cells #[.int .i64 0, .int .i64 0, .int .i64 0] 35))) := Lib.hid
    ⟨by (repeat (first | with_reducible exact Below.refl _ _ | with_reducible apply Below.drew | (with_reducible refine below_drewN ?_ _) | (with_reducible refine Below.alloc ?_ (by (try simp) <;> omega) _) | (with_reducible refine Below.setCell ?_ (by (try simp) <;> omega) _))), ((Blk.new w _ _ _).alloc _).alloc _, by rw [zv3]; exact (Blk.new1 w _ _ _ _).alloc _, by rw [zv3]; exact (blk_new2 w _ _ _ _ _).congr fun i hi => by simp [partI]⟩
  generalize ((w.alloc (.cells (arrv 24 S) 23)).alloc (.cells #[.int .i64 0, .int .i64 0, .int .i64 0] 35)).alloc (.cells #[.int .i64 0, .int .i64 0, .int .i64 0] 35) = W0 at *
  go_wp2_with fail
  go_loopw [6] (fun i wr => ∃ k : Nat, k ≤ 3 ∧ i = .int .i64 k ∧ Hid (RptR 0 S (partI S a k) w wr)) (fun i _ => 3 - (intOf i).toNat)
  case atStart => exact ⟨0, by omega, rfl, R0.out⟩
  case round =>
    obtain ⟨k, hk, rfl, R⟩ := hrel
    by_cases hlt : k < 3
    · have d1 : decide ((k : Int) < 3) = true := by simp; omega
      have k0 : (0 : Int) ≤ (k : Int) := Int.natCast_nonneg _
      have k1 : (k : Int) < 3 := by omega
      have v0 := R.out.vB.cell (i := k) (by omega)
      have v1 := R.out.vB.free k
      by_cases g0 : -3 ≤ a
      · have f0 : decide (-3 ≤ a) = true := by simpa using g0
        by_cases g1 : a < 24
        · have f1 : decide (a < 24) = true := by simpa using g1
          by_cases h1 : 0 ≤ a + (k : Int)
          · by_cases h2 : a + (k : Int) < 24
            · have e1 : decide (0 ≤ a + (k : Int)) = true := by simpa using h1
              have e2 : decide (a + (k : Int) < 24) = true := by simpa using h2
              have s0 := R.out.sB.cell (i := (a + (k : Int)).toNat) (by omega)
              have EP := Lib.hid (show partF S a k = S (a + (k : Int)).toNat by unfold partF; rw [if_pos ⟨h1, h2⟩])
              go_wp2_with fail
              go_roundw
              case rel =>
                refine ⟨k + 1, by omega, by go_num, R.out.below.setCell (by simp; omega) _, R.out.sB.other (by simp; omega) _, R.out.rB.other (by simp) _, (R.out.vB.set _ _).congr fun i hi => ?_⟩
                simp only [Go.Proofs.Ytcibndlpnfikhaa.upd, partI]
                by_cases h : i = k
                · subst h; rw [if_pos rfl, if_pos (by omega), EP.out]
                · rw [if_neg h]; split <;> split <;> first | rfl | omega
              case measure => simp [intOf]; omega
            · have e1 : decide (0 ≤ a + (k : Int)) = true := by simpa using h1
              have e2 : decide (a + (k : Int) < 24) = false := by simpa using h2
              have EP := Lib.hid (show partF S a k = 0 by unfold partF; rw [if_neg (by omega)])
              go_wp2_with fail
              go_roundw
              case rel =>
                refine ⟨k + 1, by omega, by go_num, R.out.below, R.out.sB, R.out.rB, R.out.vB.congr fun i hi => ?_⟩
                simp only [partI]
                by_cases h : i = k
                · subst h; rw [if_neg (by omega), if_pos (by omega), EP.out]
                · split <;> split <;> first | rfl | omega
              case measure => simp [intOf]; omega
          · have e1 : decide (0 ≤ a + (k : Int)) = false := by simpa using h1
            have EP := Lib.hid (show partF S a k = 0 by unfold partF; rw [if_neg (by omega)])
            go_wp2_with fail
            go_roundw
            case rel =>
              refine ⟨k + 1, by omega, by go_num, R.out.below, R.out.sB, R.out.rB, R.out.vB.congr fun i hi => ?_⟩
              simp only [partI]
              by_cases h : i = k
              · subst h; rw [if_neg (by omega), if_pos (by omega), EP.out]
              · split <;> split <;> first | rfl | omega
            case measure => simp [intOf]; omega
        · have f1 : decide (a < 24) = false := by simpa using g1
          have EP := Lib.hid (show partF S a k = 0 by unfold partF; rw [if_neg (by omega)])
          go_wp2_with fail
          go_roundw
          case rel =>
            refine ⟨k + 1, by omega, by go_num, R.out.below, R.out.sB, R.out.rB, R.out.vB.congr fun i hi => ?_⟩
            simp only [partI]
            by_cases h : i = k
            · subst h; rw [if_neg (by omega), if_pos (by omega), EP.out]
            · split <;> split <;> first | rfl | omega
          case measure => simp [intOf]; omega
      · have f0 : decide (-3 ≤ a) = false := by simpa using g0
        have EP := Lib.hid (show partF S a k = 0 by unfold partF; rw [if_neg (by omega)])
        go_wp2_with fail
        go_roundw
        case rel =>
          refine ⟨k + 1, by omega, by go_num, R.out.below, R.out.sB, R.out.rB, R.out.vB.congr fun i hi => ?_⟩
          simp only [partI]
          by_cases h : i = k
          · subst h; rw [if_neg (by omega), if_pos (by omega), EP.out]
          · split <;> split <;> first | rfl | omega
        case measure => simp [intOf]; omega
    · have hk3 : k = 3 := by omega
      subst hk3
      rw [show ((3 : Nat) : Int) = 3 from rfl]
      have V := R.out.vB
      have X := R.out.rB
      have B := Lib.hid R.out.below
      clear R hk hlt R0
      go_wp2_with (first | (refine wpList_load_row rfl 35 _ rfl (w.heap.size + 1 + 1) rfl 35 _ (0, 0) _ (V) Try.underlying35 rfl (irv3.trans (by rw [arrv_size])) ?_) | (refine wpList_store_row rfl 35 _ _ rfl (w.heap.size + 1) _ rfl rfl 35 _ (X) (irv3.trans (by rw [arrv_size])) (by rw [arrv_size, arrv_size]) (oneCell_arrv _ _) ?_))
      refine bodyPost_ret (results_cell_row Try.results10 _ _ (w.heap.size + 1) 35 (arrv 3 (partI S a 3)) (0, 0) _ rfl (setRow_heap _ _ _ _ _ _ X) Try.underlying35 rfl (irv3.trans (by rw [arrv_size]))) rfl ⟨?_, below_row B.out (by omega) _⟩
      rw [arrv_congr (g := partF S a) fun i hi => by simp only [partI]; rw [if_pos hi]]
end Go.Proofs.Ytcibndlpnfikhaa
/- A region that draws its order: behind its last call another fact about the world may be taken up. -/
namespace Go.Proofs.Ytcibndlpnfikhaa
open Go
theorem getD_keeps {listed : Array Bool} {i L : Nat} (h : listed.getD L false = true) : (listed.setIfInBounds i true).getD L false = true := by
  by_cases hi : i = L
  · subst hi
    rcases Nat.lt_or_ge i listed.size with h' | h'
    · simp [h']
    · simp [Array.getElem?_eq_none h'] at h
  · rw [getD_set_ne' false hi]; exact h
theorem wpAnyM_of_any {P : Program} {md : Region.Mode} {ops : Array Oper} {Q : Exit → Act → World → Prop} {S : World → Prop} {L : Nat} : ∀ (fuel : Nat) (listed : Array Bool) (a : Act) (w : World), listed.getD L false = true → wpAny P md ops Q fuel listed a w → wpAnyM P md ops Q S L fuel listed a w
  | 0, _, _, _, _, h => h
  | fuel + 1, _, _, _, hL, h => ⟨h.1, fun i hi => wpOp_mono (fun a' w' h' => ⟨.inl (getD_keeps hL), wpAnyM_of_any fuel _ a' w' (getD_keeps hL) h'⟩) (h.2 i hi)⟩
theorem wpAnyM_switch {P : Program} {md : Region.Mode} {ops : Array Oper} {Q : Exit → Act → World → Prop} {S : World → Prop} {L : Nat} (S' : World → Prop) (L' : Nat) {fuel : Nat} {listed : Array Bool} {a : Act} {w : World}
    (hL : listed.getD L false = true) (hS : S' w) (h : S' w → wpAnyM P md ops Q S' L' fuel listed a w) : wpAnyM P md ops Q S L fuel listed a w :=
  wpAnyM_of_any fuel listed a w hL (wpAny_of_M fuel listed a w (h hS))
/-- Take number i first: x waits for it, and L for x. -/
theorem wpAnyM_first2 {P : Program} {md : Region.Mode} {ops : Array Oper} {Q : Exit → Act → World → Prop} {S : World → Prop} {L : Nat} {i x : Nat} {oi : Oper} {v : Value} (hi : ops[i]? = some oi) (hsel : ∀ (j : Nat) (o : Oper) cs b, ops[j]? = some o → o.op ≠ .select cs b)
    (hQ : ∀ c a w, Q (.panic c) (a.put oi.dst v) w → Q (.panic c) a w) (hiL : i ≠ L) (hiX : i ≠ x)
    (hX : Region.waitsFor md ops x i = true) (hL : Region.waitsFor md ops L x = true) :
    ∀ (fuel : Nat) (listed : Array Bool) (a : Act) (w : World), listed.getD L false = false → listed.getD x true = false →
      (∀ j oj, ops[j]? = some oj → j ≠ i → listed.getD j true = false → (∀ e ∈ oj.after, Region.binds md e = true → e.on ≠ i) → oi.apart ops oj = true) →
      i ∈ Region.ready md ops listed → YieldsIf P ops S oi v a → S w →
      wpAnyM P md ops Q S L fuel (listed.setIfInBounds i true) (a.put oi.dst v) w → wpAnyM P md ops Q S L (fuel + 1) listed a w := by
  intro fuel
  induction fuel with
  | zero =>
    intro listed a w _ _ _ hr hy hGw H
    refine ⟨fun h => (by rw [h] at hr; cases hr), fun j hj => ?_⟩
    by_cases hji : j = i
    · subst hji; exact hy.wpOp hi hGw ⟨.inr hGw, H⟩
    · have := ready_mono hj hji
      rw [H.1] at this
      cases this
  | succ fuel ih =>
    intro listed a w hLw hXw hfree hr hy hGw H
    refine ⟨fun h => (by rw [h] at hr; cases hr), fun j hj => ?_⟩
    by_cases hji : j = i
    · subst hji; exact hy.wpOp hi hGw ⟨.inr hGw, H⟩
    · have h1 := H.2 j (ready_mono hj hji)
      obtain ⟨hjun, oj, hoj, hall⟩ := mem_ready.1 hj
      have hiun := (mem_ready.1 hr).1
      have hnot : ∀ e ∈ oj.after, Region.binds md e = true → e.on ≠ i := fun e he hb heq => by
        have h2 := hall e he hb
        rw [heq] at h2
        exact getD_of_ready hiun h2
      have hjX : j ≠ x := fun e => by
        subst e
        obtain ⟨oX, hoX, e, he, hb, hon⟩ := Region.waitsFor_spec hX
        have : oX = oj := Option.some.inj (hoX.symm.trans hoj)
        subst this
        exact hnot e he hb hon
      have hjL : j ≠ L := fun e => by
        subst e
        obtain ⟨oL, hoL, e, he, hb, hon⟩ := Region.waitsFor_spec hL
        have : oL = oj := Option.some.inj (hoL.symm.trans hoj)
        subst this
        have h2 := hall e he hb
        rw [hon] at h2
        exact getD_of_ready hXw h2
      have h2 := wpOp_putIf hoj (hfree j oj hoj hji hjun hnot) (fun cs b => hsel i oi cs b hi) (fun cs b => hsel j oj cs b hoj) hQ hy h1
      have hfree' : ∀ k ok, ops[k]? = some ok → k ≠ i → (listed.setIfInBounds j true).getD k true = false →
          (∀ e ∈ ok.after, Region.binds md e = true → e.on ≠ i) → oi.apart ops ok = true := fun k ok hk hki hun hno => by
        refine hfree k ok hk hki ?_ hno
        by_cases hjk : j = k
        · subst hjk; exact hjun
        · rw [getD_set_ne true hjk] at hun; exact hun
      refine wpOp_mono (fun a' w' h3 => ?_) h2
      have hL' : (listed.setIfInBounds j true).getD L false = false := by rw [getD_set_ne' _ hjL]; exact hLw
      have hX' : (listed.setIfInBounds j true).getD x true = false := by rw [getD_set_ne' _ hjX]; exact hXw
      have hS' : S w' := by
        refine h3.2.1.resolve_left fun h => ?_
        rw [Array.setIfInBounds_comm _ _ (Ne.symm hji), getD_set_ne' _ hiL, hL'] at h
        cases h
      refine ⟨.inr hS', ih (listed.setIfInBounds j true) a' w' hL' hX' hfree' (ready_mono hr (Ne.symm hji)) h3.1 hS' ?_⟩
      rw [Array.setIfInBounds_comm _ _ hji]
      exact h3.2.2
theorem wpAnyM_take2 (x : Nat) (i : Nat) {P : Program} {md : Region.Mode} {ops : Array Oper} {Q : Exit → Act → World → Prop} {S : World → Prop} {L : Nat} {oi : Oper} {v : Value} {fuel : Nat} {listed : Array Bool} {a : Act} {w : World} (hi' : ops.toList[i]? = some oi)
    (hk : (Region.noSelect ops && (Region.free md ops listed i && ((Region.ready md ops listed).contains i && (Region.waitsFor md ops x i && (Region.waitsFor md ops L x && (!listed.getD L false && (!listed.getD x true && (!(i == L) && !(i == x))))))))) = true)
    (hQ : ∀ c a w, Q (.panic c) (a.put oi.dst v) w → Q (.panic c) a w) (hy : YieldsIf P ops S oi v a) (hS : S w)
    (h : wpAnyM P md ops Q S L fuel (listed.setIfInBounds i true) (a.put oi.dst v) w) : wpAnyM P md ops Q S L (fuel + 1) listed a w := by
  have hi : ops[i]? = some oi := by rwa [Array.getElem?_toList] at hi'
  simp only [Bool.and_eq_true, Bool.not_eq_true'] at hk
  obtain ⟨k1, k2, k3, k4, k5, k6, k7, k8, k9⟩ := hk
  exact wpAnyM_first2 hi (Region.noSelect_spec k1) hQ (by simpa using k8) (by simpa using k9) k4 k5 fuel listed a w k6 k7 (Region.free_spec hi k2) (by simpa using k3) hy hS h
/-- Take number i first: those of X wait for it or for one of X, and L is of X. -/
theorem wpAnyM_firstX {P : Program} {md : Region.Mode} {ops : Array Oper} {Q : Exit → Act → World → Prop} {S : World → Prop} {L : Nat} {i : Nat} (X : List Nat) {oi : Oper} {v : Value} (hi : ops[i]? = some oi) (hsel : ∀ (j : Nat) (o : Oper) cs b, ops[j]? = some o → o.op ≠ .select cs b)
    (hQ : ∀ c a w, Q (.panic c) (a.put oi.dst v) w → Q (.panic c) a w) (hiX : i ∉ X) (hLX : L ∈ X)
    (hX : ∀ x, x ∈ X → Region.waitsFor md ops x i = true ∨ ∃ z, z ∈ X ∧ Region.waitsFor md ops x z = true) :
    ∀ (fuel : Nat) (listed : Array Bool) (a : Act) (w : World), (∀ x, x ∈ X → listed.getD x true = false) →
      (∀ j oj, ops[j]? = some oj → j ≠ i → listed.getD j true = false → (∀ e ∈ oj.after, Region.binds md e = true → e.on ≠ i) → oi.apart ops oj = true) →
      i ∈ Region.ready md ops listed → YieldsIf P ops S oi v a → S w →
      wpAnyM P md ops Q S L fuel (listed.setIfInBounds i true) (a.put oi.dst v) w → wpAnyM P md ops Q S L (fuel + 1) listed a w := by
  have hiL : i ≠ L := fun e => hiX (e ▸ hLX)
  intro fuel
  induction fuel with
  | zero =>
    intro listed a w _ _ hr hy hGw H
    refine ⟨fun h => (by rw [h] at hr; cases hr), fun j hj => ?_⟩
    by_cases hji : j = i
    · subst hji; exact hy.wpOp hi hGw ⟨.inr hGw, H⟩
    · have := ready_mono hj hji
      rw [H.1] at this
      cases this
  | succ fuel ih =>
    intro listed a w hXw hfree hr hy hGw H
    refine ⟨fun h => (by rw [h] at hr; cases hr), fun j hj => ?_⟩
    by_cases hji : j = i
    · subst hji; exact hy.wpOp hi hGw ⟨.inr hGw, H⟩
    · have h1 := H.2 j (ready_mono hj hji)
      obtain ⟨hjun, oj, hoj, hall⟩ := mem_ready.1 hj
      have hiun := (mem_ready.1 hr).1
      have hnot : ∀ e ∈ oj.after, Region.binds md e = true → e.on ≠ i := fun e he hb heq => by
        have h2 := hall e he hb
        rw [heq] at h2
        exact getD_of_ready hiun h2
      have hjX : j ∉ X := fun hjx => by
        rcases hX j hjx with h | ⟨z, hz, h⟩
        · obtain ⟨oX, hoX, e, he, hb, hon⟩ := Region.waitsFor_spec h
          have : oX = oj := Option.some.inj (hoX.symm.trans hoj)
          subst this
          exact hnot e he hb hon
        · obtain ⟨oX, hoX, e, he, hb, hon⟩ := Region.waitsFor_spec h
          have : oX = oj := Option.some.inj (hoX.symm.trans hoj)
          subst this
          have h2 := hall e he hb
          rw [hon] at h2
          exact getD_of_ready (hXw z hz) h2
      have hjL : j ≠ L := fun e => hjX (e ▸ hLX)
      have h2 := wpOp_putIf hoj (hfree j oj hoj hji hjun hnot) (fun cs b => hsel i oi cs b hi) (fun cs b => hsel j oj cs b hoj) hQ hy h1
      have hfree' : ∀ k ok, ops[k]? = some ok → k ≠ i → (listed.setIfInBounds j true).getD k true = false →
          (∀ e ∈ ok.after, Region.binds md e = true → e.on ≠ i) → oi.apart ops ok = true := fun k ok hk hki hun hno => by
        refine hfree k ok hk hki ?_ hno
        by_cases hjk : j = k
        · subst hjk; exact hjun
        · rw [getD_set_ne true hjk] at hun; exact hun
      refine wpOp_mono (fun a' w' h3 => ?_) h2
      have hX' : ∀ x, x ∈ X → (listed.setIfInBounds j true).getD x true = false := fun x hx => by
        have hne : j ≠ x := fun e => by rw [e] at hjX; exact hjX hx
        rw [getD_set_ne' true hne]; exact hXw x hx
      have hS' : S w' := by
        refine h3.2.1.resolve_left fun h => ?_
        rw [Array.setIfInBounds_comm _ _ (Ne.symm hji), getD_set_ne' _ hiL] at h
        exact getD_of_ready (hX' L hLX) h
      refine ⟨.inr hS', ih (listed.setIfInBounds j true) a' w' hX' hfree' (ready_mono hr (Ne.symm hji)) h3.1 hS' ?_⟩
      rw [Array.setIfInBounds_comm _ _ hji]
      exact h3.2.2
theorem wpAnyM_takeX (X : List Nat) (i : Nat) {P : Program} {md : Region.Mode} {ops : Array Oper} {Q : Exit → Act → World → Prop} {S : World → Prop} {L : Nat} {oi : Oper} {v : Value} {fuel : Nat} {listed : Array Bool} {a : Act} {w : World} (hi' : ops.toList[i]? = some oi)
    (hk : (Region.noSelect ops && (Region.free md ops listed i && ((Region.ready md ops listed).contains i && (!X.contains i && (X.contains L && (X.all (fun x => (Region.waitsFor md ops x i || X.any fun z => Region.waitsFor md ops x z)) && X.all fun x => !listed.getD x true)))))) = true)
    (hQ : ∀ c a w, Q (.panic c) (a.put oi.dst v) w → Q (.panic c) a w) (hy : YieldsIf P ops S oi v a) (hS : S w)
    (h : wpAnyM P md ops Q S L fuel (listed.setIfInBounds i true) (a.put oi.dst v) w) : wpAnyM P md ops Q S L (fuel + 1) listed a w := by
  have hi : ops[i]? = some oi := by rwa [Array.getElem?_toList] at hi'
  simp only [Bool.and_eq_true, Bool.not_eq_true'] at hk
  obtain ⟨k1, k2, k3, k4, k5, k6, k7⟩ := hk
  refine wpAnyM_firstX X hi (Region.noSelect_spec k1) hQ (by simpa using k4) (by simpa using k5) (fun x hx => ?_) fuel listed a w (fun x hx => ?_) (Region.free_spec hi k2) (by simpa using k3) hy hS h
  · have := (List.all_eq_true.1 k6) x hx
    rw [Bool.or_eq_true] at this
    refine this.imp id fun h => ?_
    obtain ⟨z, hz, hz2⟩ := List.any_eq_true.1 h
    exact ⟨z, hz, hz2⟩
  · have := (List.all_eq_true.1 k7) x hx
    simpa using this
end Go.Proofs.Ytcibndlpnfikhaa
