/- The walk of StrapTurns. -/
import Derived.Test.YtgpnopiinogkmaaQ20
import Derived.Test.YtgpnopiinogkmaaQ18
import Derived.Test.YtgpnopiinogkmaaQ15
namespace Go.Proofs.Ytgpnopiinogkmaa
open Go.RowKit
open Go
set_option maxRecDepth 100000
theorem LsR.one {c : Addr} {h : Bool} {a : Lx} {E : List Lx} {top : Nat} {w wr : World} (s : LsR c h (a :: E) top w wr) : LsR c h [a] top w wr := s.sub (fun e he => by simp at he; subst he; exact .head _)
theorem ls_nq {c : Addr} {h : Bool} {E : List Lx} {top : Nat} {w wr : World} (s : LsR c h E top w wr) (d : Nat) (e : wr.heap.size = d) :
    Blk (wr.alloc (.cells #[.int .i64 0, .int .i64 0, .int .i64 0, .int .i64 0] 27)) d 27 4 (fun _ => 0) ∧ top ≤ d ∧ d ≠ c.block := by
  subst e
  have := s.le
  have := s.lim
  have := s.cb
  exact ⟨by rw [show (#[.int .i64 0, .int .i64 0, .int .i64 0, .int .i64 0] : Array Value) = arrv 4 (fun _ => 0) by kernel_rfl]; exact Blk.new _ _ _ _, s.le, by omega⟩
def sq4 (q : Nat → Int) : Nat → Int := fun i => if i < 4 then q i else 0
theorem run_build_sq4 {o : Oper} {ev : Operand → Value} {w : World} (x0 x1 x2 x3 : Operand) (ho : o.op = .build 30 #[(0, x0), (1, x1), (2, x2), (3, x3)]) {q : Nat → Int}
    (h0 : ev x0 = .int .i64 (q 0)) (h1 : ev x1 = .int .i64 (q 1)) (h2 : ev x2 = .int .i64 (q 2)) (h3 : ev x3 = .int .i64 (q 3)) :
    (execOp ev o).run Try.prog w = .ok (.value (.agg (arrv 24 (sq4 q)))) w := by
  unfold execOp
  simp only [ho, List.map_toArray, List.map_cons, List.map_nil, h0, h1, h2, h3]
  kernel_rfl
theorem z4t : (#[.int .i64 0, .int .i64 0, .int .i64 0, .int .i64 0] : Array Value) = arrv 4 (fun _ => 0) := by kernel_rfl
theorem z8t : (#[.int .i64 0, .int .i64 0, .int .i64 0, .int .i64 0, .int .i64 0, .int .i64 0, .int .i64 0, .int .i64 0] : Array Value) = arrv 8 (fun _ => 0) := by kernel_rfl
theorem z24t : (#[.int .i64 0, .int .i64 0, .int .i64 0, .int .i64 0, .int .i64 0, .int .i64 0, .int .i64 0, .int .i64 0, .int .i64 0, .int .i64 0, .int .i64 0, .int .i64 0, .int .i64 0, .int .i64 0, .int .i64 0, .int .i64 0, .int .i64 0, .int .i64 0, .int .i64 0, .int .i64 0, .int .i64 0, .int .i64 0, .int .i64 0, .int .i64 0] : Array Value) = arrv 24 (fun _ => 0) := by kernel_rfl
theorem imt : (Try.prog.info? 33).map (·.size) = some 8 := by kernel_rfl
set_option maxHeartbeats 4000000 in
theorem turns16_no (hd a n : Int) (w : World) (h : a < -67108864 ∨ 67108864 < a ∨ n < 0 ∨ 40 < n) :
    Calls Try.prog 3 #[.int .i64 hd, .int .i64 a, .int .i64 n] w fun e w' => e = .returned (.bool true) ∧ Below w.heap.size w w' := by
  go_enter Try.func3, Try.ntmps3
  go_upto_region 3 with (go_at_call 4; (refine (awake16_any _).mono ?_); rintro e w1 ⟨rfl, hb1⟩; have S1 := Lib.hid hb1; clear hb1)
  go_wp2_with fail
  all_goals (first | (exfalso; omega) | (go_ret; exact ⟨rfl, S1.out⟩))
/-- The sample of a step. -/
def tuI (a : Int) : Nat → Int := upd (stlF 8000) 4 a
theorem tuI_at (a : Int) : tuI a 2 = 0 ∧ tuI a 3 = 0 ∧ tuI a 4 = a := ⟨rfl, rfl, by unfold tuI upd; rw [if_pos rfl]⟩
theorem sq4_start (x : Int) : TuI 132 x (sq4 (fyV x)) := tu_start (fun i hi => if_pos hi) (fun i hi => if_neg (by omega))
theorem tmod40 (x : Int) : -1099511627776 < x.tmod 1099511627776 ∧ x.tmod 1099511627776 < 1099511627776 := by
  have := Int.tmod_lt_of_pos x (show (0 : Int) < 1099511627776 by decide)
  have := Int.tmod_lt_of_pos (-x) (show (0 : Int) < 1099511627776 by decide)
  rw [Int.neg_tmod] at this
  omega
theorem tmod40_id {x : Int} (h1 : -1099511627776 < x) (h2 : x < 1099511627776) : x.tmod 1099511627776 = x := by
  rcases Int.le_total 0 x with h | h
  · exact Int.tmod_eq_of_lt h h2
  · have := Int.tmod_eq_of_lt (a := -x) (b := 1099511627776) (by omega) (by omega)
    rw [Int.neg_tmod] at this
    omega
set_option maxHeartbeats 16000000 in
theorem turns16_yes (hd a : Int) (N : Nat) (w : World) (ha : -67108864 ≤ a ∧ a ≤ 67108864) (hN : N ≤ 40) (hh : -9223372036854775808 ≤ hd ∧ hd ≤ 9223372036854775807) :
    Calls Try.prog 3 #[.int .i64 hd, .int .i64 a, .int .i64 (N : Int)] w fun e w' => e = .returned (.bool true) ∧ Below w.heap.size w w' := by
  have c1 : decide (a < -67108864) = false := by simp; omega
  have c2 : decide (67108864 < a) = false := by simp; omega
  have c3 : decide ((N : Int) < 0) = false := by simp
  have c4 : decide (40 < (N : Int)) = false := by simp; omega
  have HN0 := Lib.hid (And.intro ha (And.intro hN hh))
  have NX := Lib.hid (fun (k : Nat) (S : Nat → Int) (hk : k < N) (s : TuI (132 + 330 * k) (hd + k * a) S) => show TuI (132 + 330 * ((k + 1 : Nat) : Int)) (hd + ((k + 1 : Nat) : Int) * a) (stepN S (tuI a)) from by
    have t := tuI_at a
    have := tu_next ha t.1 t.2.1 t.2.2 (show (0 : Int) ≤ 132 + 330 * k ∧ (132 + 330 * k : Int) ≤ 100000 by omega) s
    rw [show (132 + 330 * k : Int) + 330 = 132 + 330 * ((k + 1 : Nat) : Int) by push_cast; omega, show hd + k * a + a = hd + ((k + 1 : Nat) : Int) * a by push_cast; grind] at this
    exact this)
  have SS := Lib.hid (sq4_start hd)
  obtain ⟨I, hI⟩ : ∃ x, tuI a = x := ⟨_, rfl⟩
  have HI := Lib.hid (show upd (stlF 8000) 4 a = I from hI)
  rw [hI] at NX
  clear hI ha hN hh
  go_enter Try.func3, Try.ntmps3
  go_upto_region 5 with (go_at_call 4; (refine (awake16_any _).mono ?_); rintro e w1 ⟨rfl, hb1⟩; have S1 := Lib.hid hb1; clear hb1)
  clear c1 c2 c3 c4
  go_upto_region 6 with fail
  obtain ⟨bc, hbc⟩ : ∃ x, w1.heap.size = x := ⟨_, rfl⟩
  have K4 := Lib.hid (Flg.new w1 false)
  have b4 : Below w1.heap.size w1 (w1.alloc (.cells #[.bool false] 25)) := (Below.refl _ _).alloc (Nat.le_refl _) _
  have R4 := Lib.hid (show Below w.heap.size w (w1.alloc (.cells #[.bool false] 25)) ∧ w.heap.size ≤ bc from ⟨Below.after S1.out b4, by rw [← hbc]; exact S1.out.size⟩)
  rw [hbc] at K4 ⊢
  generalize w1.alloc (.cells #[.bool false] 25) = W4 at *
  clear S1 hbc b4
  have M4 := Lib.hid (ls_nil K4.out.cell K4.out.free)
  clear K4
  refine wp_region_lit ?_
  refine wpList_val (v := ?_) rfl ?_ ?_
  rotate_left
  · (go_simp; (try (first | with_reducible rfl | (constructor <;> with_reducible rfl))))
  (try simp only [Act.put, nA, nB, nC])
  refine wpList_val (v := ?_) rfl ?_ ?_
  rotate_left
  · (go_simp; (try (first | with_reducible rfl | (constructor <;> with_reducible rfl))))
  (try simp only [Act.put, nA, nB, nC])
  refine wpList_step (fun K hK => ?_)
  go_simp
  (refine (fromyaw_any ⟨bc, 0, none⟩ _ hd _ M4.out.cell M4.out.free).mono ?_); rintro e w2 ⟨rfl, hu⟩; have M5 := Lib.hid (M4.out.upd' hu); clear hu M4
  (try dsimp only)
  (try simp only [Act.put, nA, nB, nC])
  refine hK _ _ ?_
  clear hK K
  refine wpList_act (v := ?_) (w' := ?_) rfl ?_ ?_
  rotate_left 2
  · (go_simp; (try (first | with_reducible rfl | (constructor <;> with_reducible rfl))))
  (try simp only [Act.put, nA, nB, nC])
  refine wpList_done (w' := ?_) rfl ?_ ?_
  rotate_left
  · (refine Eq.trans (run_store_row 27 (.tmp 8) (.tmp 34) (by rfl) (w2.heap.size) (by rfl) (by rfl) (show Blk (w2.alloc (.cells #[.int .i64 0, .int .i64 0, .int .i64 0, .int .i64 0] 27)) w2.heap.size 27 4 (fun _ => 0) by rw [z4t]; exact Blk.new _ _ _ _) (iqt.trans rfl)) ?_; with_reducible rfl)
  (try simp only [Act.put, nA, nB, nC])
  refine wpList_nil ?_
  obtain ⟨q, hq⟩ : ∃ x, fyV hd = x := ⟨_, rfl⟩
  rw [hq] at SS ⊢
  clear hq
  have M6 := M5.out.put 27 4 (fun _ => 0) q
  rw [← z4t] at M6
  have M6 := Lib.hid M6
  obtain ⟨qb, hqb⟩ : ∃ x, w2.heap.size = x := ⟨_, rfl⟩
  rw [hqb] at M6 ⊢
  generalize (w2.alloc (.cells #[.int .i64 0, .int .i64 0, .int .i64 0, .int .i64 0] 27)).setRow qb (arrv 4 q) = W6 at *
  clear M5 hqb
  obtain ⟨H6, hH6⟩ : ∃ x, (false || fyH hd) = x := ⟨_, rfl⟩
  rw [hH6] at M6
  clear hH6
  have e0 := M6.out.e0.cell (i := 0) (by decide)
  have e1 := M6.out.e0.cell (i := 1) (by decide)
  have e2 := M6.out.e0.cell (i := 2) (by decide)
  have e3 := M6.out.e0.cell (i := 3) (by decide)
  go_upto_region 7 with fail
  refine wp_region_lit ?_
  refine wpList_val (v := ?_) rfl ?_ ?_
  rotate_left
  · (go_simp; (try (first | with_reducible rfl | (constructor <;> with_reducible rfl))))
  (try simp only [Act.put, nA, nB, nC])
  refine wpList_val (v := ?_) rfl ?_ ?_
  rotate_left
  · (go_simp; (try (first | with_reducible rfl | (constructor <;> with_reducible rfl))))
  (try simp only [Act.put, nA, nB, nC])
  refine wpList_val (v := ?_) rfl ?_ ?_
  rotate_left
  · (go_simp; (try (first | with_reducible rfl | (constructor <;> with_reducible rfl))))
  (try simp only [Act.put, nA, nB, nC])
  refine wpList_val (v := ?_) rfl ?_ ?_
  rotate_left
  · (go_simp; (try (first | with_reducible rfl | (constructor <;> with_reducible rfl))))
  (try simp only [Act.put, nA, nB, nC])
  refine wpList_val (v := ?_) rfl ?_ ?_
  rotate_left
  · (go_simp; (try (first | with_reducible rfl | (constructor <;> with_reducible rfl))))
  (try simp only [Act.put, nA, nB, nC])
  refine wpList_val (v := ?_) rfl ?_ ?_
  rotate_left
  · (go_simp; (try (first | with_reducible rfl | (constructor <;> with_reducible rfl))))
  (try simp only [Act.put, nA, nB, nC])
  refine wpList_val (v := ?_) rfl ?_ ?_
  rotate_left
  · (go_simp; (try (first | with_reducible rfl | (constructor <;> with_reducible rfl))))
  (try simp only [Act.put, nA, nB, nC])
  refine wpList_val (v := ?_) rfl ?_ ?_
  rotate_left
  · (go_simp; (try (first | with_reducible rfl | (constructor <;> with_reducible rfl))))
  (try simp only [Act.put, nA, nB, nC])
  refine wpList_val (v := ?_) rfl ?_ ?_
  rotate_left
  · (refine Eq.trans (run_build_sq4 (q := q) (.tmp 36) (.tmp 38) (.tmp 40) (.tmp 42) (by rfl) (by rfl) (by rfl) (by rfl) (by rfl)) ?_; with_reducible rfl)
  (try simp only [Act.put, nA, nB, nC])
  refine wpList_act (v := ?_) (w' := ?_) rfl ?_ ?_
  rotate_left 2
  · (go_simp; (try (first | with_reducible rfl | (constructor <;> with_reducible rfl))))
  (try simp only [Act.put, nA, nB, nC])
  refine wpList_done (w' := ?_) rfl ?_ ?_
  rotate_left
  · (refine Eq.trans (run_store_row 30 (.tmp 9) (.tmp 43) (by rfl) (W6.heap.size) (by rfl) (by rfl) (show Blk (W6.alloc (.cells #[.int .i64 0, .int .i64 0, .int .i64 0, .int .i64 0, .int .i64 0, .int .i64 0, .int .i64 0, .int .i64 0, .int .i64 0, .int .i64 0, .int .i64 0, .int .i64 0, .int .i64 0, .int .i64 0, .int .i64 0, .int .i64 0, .int .i64 0, .int .i64 0, .int .i64 0, .int .i64 0, .int .i64 0, .int .i64 0, .int .i64 0, .int .i64 0] 30)) W6.heap.size 30 24 (fun _ => 0) by rw [z24t]; exact Blk.new _ _ _ _) (ist.trans rfl)) ?_; with_reducible rfl)
  (try simp only [Act.put, nA, nB, nC])
  refine wpList_nil ?_
  clear e0 e1 e2 e3
  obtain ⟨S, hS⟩ : ∃ x, sq4 q = x := ⟨_, rfl⟩
  rw [hS] at SS ⊢
  clear hS
  have M7 := M6.out.put 30 24 (fun _ => 0) S
  rw [← z24t] at M7
  have M7 := Lib.hid (M7.sub (E' := [⟨W6.heap.size, 30, 24, S⟩]) (by simp))
  obtain ⟨sb, hsb⟩ : ∃ x, W6.heap.size = x := ⟨_, rfl⟩
  rw [hsb] at M7 ⊢
  generalize (W6.alloc (.cells #[.int .i64 0, .int .i64 0, .int .i64 0, .int .i64 0, .int .i64 0, .int .i64 0, .int .i64 0, .int .i64 0, .int .i64 0, .int .i64 0, .int .i64 0, .int .i64 0, .int .i64 0, .int .i64 0, .int .i64 0, .int .i64 0, .int .i64 0, .int .i64 0, .int .i64 0, .int .i64 0, .int .i64 0, .int .i64 0, .int .i64 0, .int .i64 0] 30)).setRow sb (arrv 24 S) = W7 at *
  clear M6 hsb
  go_upto_region 9 with fail
  go_loopw [10] (fun i wr => ∃ (k : Nat) (h : Bool) (S : Nat → Int) (top : Nat), k ≤ N ∧ i = .int .i64 k ∧ Hid (LsR ⟨bc, 0, none⟩ h [⟨sb, 30, 24, S⟩] top W4 wr ∧ TuI (132 + 330 * k) (hd + k * a) S)) (fun i _ => N - (intOf i).toNat)
  case atStart => exact ⟨0, H6, S, _, Nat.zero_le _, by go_num, Lib.hid ⟨M7.out, by simpa using SS.out⟩⟩
  case round =>
    obtain ⟨k, h, S, top, hk, rfl, R⟩ := hrel
    clear SS M7
    have k0 : (0 : Int) ≤ (k : Int) := Int.natCast_nonneg _
    have n40 : (N : Int) ≤ 40 := by have := HN0.out.2.1; omega
    by_cases hlt : k < N
    · have d1 : decide (k < N) = true := by simpa using hlt
      have d2 : decide ((k : Int) < (N : Int)) = true := by simpa using hlt
      have k1 : (k : Int) < (N : Int) := by omega
      have NK := Lib.hid (NX.out k S hlt R.out.2)
      have R0 := Lib.hid R.out.1
      clear R
      go_upto_region 11 with fail
      refine wp_region_lit ?_
      refine wpList_step (fun K hK => ?_)
      go_simp
      (refine (still_any 8000 _).mono ?_); rintro e w3 ⟨rfl, hb⟩; have R1 := Lib.hid (R0.out.down hb); clear hb R0
      (try dsimp only)
      (try simp only [Act.put, nA, nB, nC])
      refine hK _ _ ?_
      clear hK K
      refine wpList_act (v := ?_) (w' := ?_) rfl ?_ ?_
      rotate_left 2
      · (go_simp; (try (first | with_reducible rfl | (constructor <;> with_reducible rfl))))
      (try simp only [Act.put, nA, nB, nC])
      refine wpList_done (w' := ?_) rfl ?_ ?_
      rotate_left
      · (refine Eq.trans (run_store_row 33 (.tmp 11) (.tmp 49) (by rfl) (w3.heap.size) (by rfl) (by rfl) (show Blk (w3.alloc (.cells #[.int .i64 0, .int .i64 0, .int .i64 0, .int .i64 0, .int .i64 0, .int .i64 0, .int .i64 0, .int .i64 0] 33)) w3.heap.size 33 8 (fun _ => 0) by rw [z8t]; exact Blk.new _ _ _ _) (imt.trans rfl)) ?_; with_reducible rfl)
      (try simp only [Act.put, nA, nB, nC])
      refine wpList_nil ?_
      have R2 := R1.out.put 33 8 (fun _ => 0) (stlF 8000)
      rw [← z8t] at R2
      have R2 := Lib.hid R2
      obtain ⟨ib, hib⟩ : ∃ x, w3.heap.size = x := ⟨_, rfl⟩
      have hnb := Lib.hid (fun (e : Lx) he => (show e.b ≠ ib from by have := (R1.out.ex e he).2.2; have := R1.out.le; omega))
      rw [hib] at R2 ⊢
      generalize (w3.alloc (.cells #[.int .i64 0, .int .i64 0, .int .i64 0, .int .i64 0, .int .i64 0, .int .i64 0, .int .i64 0, .int .i64 0] 33)).setRow ib (arrv 8 (stlF 8000)) = W8 at *
      clear R1 hib
      have u0 := R2.out.e0.cell (i := 4) (by decide)
      have u1 := R2.out.e0.free 4
      rw [show stlF 8000 4 = 0 from rfl] at u0
      go_upto_region 12 with fail
      go_upto_region 13 with fail
      have R3 := R2.out.set hnb.out 4 a
      rw [HI.out] at R3
      have R3 := Lib.hid (R3.sub (E' := [⟨sb, 30, 24, S⟩, ⟨ib, 33, 8, I⟩]) (by simp))
      generalize W8.setCell ⟨ib, 4, none⟩ (.int .i64 a) = W9 at *
      clear R2 u0 u1 hnb
      have p0 := R3.out.e0
      have p1 := R3.out.e1
      refine wp_region_lit ?_
      refine wpList_val (v := ?_) rfl ?_ ?_
      rotate_left
      · (go_simp; (try (first | with_reducible rfl | (constructor <;> with_reducible rfl))))
      (try simp only [Act.put, nA, nB, nC])
      refine wpList_val (v := ?_) rfl ?_ ?_
      rotate_left
      · refine Eq.trans (run_load_row 30 (.tmp 9) (by rfl) (sb) (by rfl) _ _ _ _ (p0) Try.underlying30 rfl (ist.trans (by rw [arrv_size]))) ?_; with_reducible rfl
      (try simp only [Act.put, nA, nB, nC])
      refine wpList_val (v := ?_) rfl ?_ ?_
      rotate_left
      · (refine Eq.trans (run_load_row 33 (.tmp 11) (by rfl) ib (by rfl) _ _ _ _ p1 Try.underlying33 rfl (imt.trans (by rw [arrv_size]))) ?_; with_reducible rfl)
      (try simp only [Act.put, nA, nB, nC])
      refine wpList_step (fun K hK => ?_)
      go_simp
      (refine (step_any2 ⟨bc, 0, none⟩ h S I _ R3.out.cell R3.out.free).mono ?_); rintro e w5 ⟨rfl, hu⟩; have R4' := Lib.hid (R3.out.upd' hu); clear hu R3 p0 p1; have p0 := R4'.out.e0
      (try dsimp only)
      (try simp only [Act.put, nA, nB, nC])
      refine hK _ _ ?_
      clear hK K
      refine wpList_done (w' := ?_) rfl ?_ ?_
      rotate_left
      · refine Eq.trans (run_store_row 30 (.tmp 9) (.tmp 56) (by rfl) (sb) (by rfl) (by rfl) (p0) (ist.trans rfl)) ?_; with_reducible rfl
      (try simp only [Act.put, nA, nB, nC])
      refine wpList_nil ?_
      obtain ⟨S2, hS2⟩ : ∃ x, stepN S I = x := ⟨_, rfl⟩
      rw [hS2] at NK ⊢
      clear hS2
      obtain ⟨h2, hh2⟩ : ∃ x, (h || stepH2 S I) = x := ⟨_, rfl⟩
      rw [hh2] at R4'
      clear hh2
      have R5 := Lib.hid ((R4'.out.sub (E' := [⟨sb, 30, 24, S⟩]) (by simp)).row (by simp) S2)
      generalize w5.setRow sb (arrv 24 S2) = W10 at *
      clear R4' p0
      go_wp2_with fail
      go_roundw
      case rel => exact ⟨k + 1, h2, S2, _, by omega, by go_num, Lib.hid ⟨R5.out, NK.out⟩⟩
      case measure => simp [intOf]; omega
    · obtain rfl : k = N := by omega
      have d1 : decide (k < k) = false := by simp
      have d2 : decide ((k : Int) < (k : Int)) = false := by simp
      have hk40 : k ≤ 40 := HN0.out.2.1
      have a1 := HN0.out.1
      have ka := mul_bd (x := (k : Int)) (y := a) (X := 40) (Y := 67108864) (by omega) a1
      have hm := tmod40 hd
      have x1 : IntKind.i64.wrap (hd.tmod 1099511627776) = hd.tmod 1099511627776 := IntWalk.i64_in _ (by omega)
      have x2 : IntKind.i64.wrap (a * (k : Int)) = a * (k : Int) := IntWalk.i64_in _ (by rw [Int.mul_comm]; omega)
      have x3 : IntKind.i64.wrap (hd.tmod 1099511627776 + a * (k : Int)) = hd.tmod 1099511627776 + a * (k : Int) := IntWalk.i64_in _ (by rw [Int.mul_comm a]; omega)
      have HE := Lib.hid (fun (h1 : ¬ 1099511627776 ≤ hd) (h2 : ¬ hd ≤ -1099511627776) => show qmV (conjV (fyV (hd.tmod 1099511627776 + a * (k : Int)))) S 1 = 0 ∧ -16384 ≤ qmV (conjV (fyV (hd.tmod 1099511627776 + a * (k : Int)))) S 3 ∧ qmV (conjV (fyV (hd.tmod 1099511627776 + a * (k : Int)))) S 3 ≤ 16384 from by
        rw [tmod40_id (by omega) (by omega), Int.mul_comm a]
        exact tu_end R.out.2 (by omega))
      have R0 := Lib.hid R.out.1
      clear R ka hm a1
      go_upto_region 14 with fail
      clear d1 d2
      refine wp_region_lit ?_
      refine wpList_val (v := ?_) rfl ?_ ?_
      rotate_left
      · (go_simp; (try (first | with_reducible rfl | (constructor <;> with_reducible rfl))))
      (try simp only [Act.put, nA, nB, nC])
      refine wpList_val (v := ?_) rfl ?_ ?_
      rotate_left
      · (go_simp; (try (first | with_reducible rfl | (constructor <;> with_reducible rfl))))
      (try simp only [Act.put, nA, nB, nC])
      refine wpList_val (v := ?_) rfl ?_ ?_
      rotate_left
      · (go_simp; (try (first | with_reducible rfl | (constructor <;> with_reducible rfl))))
      (try simp only [Act.put, nA, nB, nC])
      refine wpList_val (v := ?_) rfl ?_ ?_
      rotate_left
      · (go_simp; (try (first | with_reducible rfl | (constructor <;> with_reducible rfl))))
      (try simp only [Act.put, nA, nB, nC])
      refine wpList_val (v := ?_) rfl ?_ ?_
      rotate_left
      · (go_simp; (try (first | with_reducible rfl | (constructor <;> with_reducible rfl))))
      (try simp only [Act.put, nA, nB, nC])
      refine wpList_val (v := ?_) rfl ?_ ?_
      rotate_left
      · (go_simp; (try (first | with_reducible rfl | (constructor <;> with_reducible rfl))))
      (try simp only [Act.put, nA, nB, nC])
      refine wpList_val (v := ?_) rfl ?_ ?_
      rotate_left
      · (go_simp; (try (first | with_reducible rfl | (constructor <;> with_reducible rfl))))
      (try simp only [Act.put, nA, nB, nC])
      refine wpList_step (fun K hK => ?_)
      go_simp
      (refine (fromyaw_any ⟨bc, 0, none⟩ _ _ _ R0.out.cell R0.out.free).mono ?_); rintro e w2 ⟨rfl, hu⟩; have M5 := Lib.hid (R0.out.upd' hu); clear hu R0
      (try dsimp only)
      (try simp only [Act.put, nA, nB, nC])
      refine hK _ _ ?_
      clear hK K
      refine wpList_act (v := ?_) (w' := ?_) rfl ?_ ?_
      rotate_left 2
      · (go_simp; (try (first | with_reducible rfl | (constructor <;> with_reducible rfl))))
      (try simp only [Act.put, nA, nB, nC])
      refine wpList_done (w' := ?_) rfl ?_ ?_
      rotate_left
      · (refine Eq.trans (run_store_row 27 (.tmp 12) (.tmp 64) (by rfl) (w2.heap.size) (by rfl) (by rfl) (show Blk (w2.alloc (.cells #[.int .i64 0, .int .i64 0, .int .i64 0, .int .i64 0] 27)) w2.heap.size 27 4 (fun _ => 0) by rw [z4t]; exact Blk.new _ _ _ _) (iqt.trans rfl)) ?_; with_reducible rfl)
      (try simp only [Act.put, nA, nB, nC])
      refine wpList_nil ?_
      obtain ⟨V, hV⟩ : ∃ x, fyV (hd.tmod 1099511627776 + a * (k : Int)) = x := ⟨_, rfl⟩
      rw [hV] at HE ⊢
      clear hV x1 x2 x3
      obtain ⟨h1, hh1⟩ : ∃ x, (h || fyH (hd.tmod 1099511627776 + a * (k : Int))) = x := ⟨_, rfl⟩
      rw [hh1] at M5
      clear hh1
      have M6 := M5.out.put 27 4 (fun _ => 0) V
      rw [← z4t] at M6
      have M6 := Lib.hid M6
      obtain ⟨wb, hwb⟩ : ∃ x, w2.heap.size = x := ⟨_, rfl⟩
      rw [hwb] at M6 ⊢
      generalize (w2.alloc (.cells #[.int .i64 0, .int .i64 0, .int .i64 0, .int .i64 0] 27)).setRow wb (arrv 4 V) = W6 at *
      clear M5 hwb
      have HD := Lib.hid (show qmV (conjV V) (q4 (S 0) (S 1) (S 2) (S 3)) = qmV (conjV V) S from funext (ur_qm (fun _ _ => rfl) (fun i hi => by
        rcases (show i = 0 ∨ i = 1 ∨ i = 2 ∨ i = 3 by omega) with rfl | rfl | rfl | rfl <;> rfl)).1)
      have HB := Lib.hid (show -1152921504606846976 ≤ qmV (conjV V) S 3 ∧ qmV (conjV V) S 3 ≤ 1152921504606846976 from by
        unfold qmV dotV; rw [if_neg (by decide)]; exact satV_bd _)
      obtain ⟨D, hD⟩ : ∃ x, qmV (conjV V) S = x := ⟨_, rfl⟩
      rw [hD] at HD HB HE
      clear hD
      go_upto_region 15 with fail
      have HS := Lib.hid M6.out.drew
      clear M6
      (try simp only [Act.put])
      go_cut [13] from 65 to 78 (fun s13 wx => ∃ db h2 t2, s13 = .pointer (some ⟨db, 0, none⟩) ∧ Hid (LsR ⟨bc, 0, none⟩ h2 [⟨db, 27, 4, D⟩] t2 W4 wx))
      case first =>
        refine wp_region_M (fun w' => Blk w' wb 27 4 V ∧ Blk w' sb 30 24 S) 14 (by kernel_rfl) ?_ (fun hHeld => ?_)
        · exact ⟨HS.out.e0, HS.out.e1⟩
        refine wpAnyM_take 0 (v := ?_) rfl (by kernel_rfl) (fun _ _ _ h => h) (Or.inl ⟨by rfl, ?_⟩) (by assumption) ?_
        rotate_left
        · (intro wx hSw; (try dsimp only at hSw); go_simp; (try with_reducible rfl))
        (try simp only [Act.put, nA, nB, nC])
        refine wpAnyM_take 1 (v := ?_) rfl (by kernel_rfl) (fun _ _ _ h => h) (Or.inl ⟨by rfl, ?_⟩) (by assumption) ?_
        rotate_left
        · (intro wx hSw; refine Eq.trans (run_load_row 27 (.tmp 12) (by rfl) (wb) (by rfl) _ _ _ _ (hSw.1) Try.underlying27 rfl (iqt.trans (by rw [arrv_size]))) ?_; with_reducible rfl)
        (try simp only [Act.put, nA, nB, nC])
        refine wpAnyM_take 3 (v := ?_) rfl (by kernel_rfl) (fun _ _ _ h => h) (Or.inl ⟨by rfl, ?_⟩) (by assumption) ?_
        rotate_left
        · (intro wx hSw; (try dsimp only at hSw); go_simp; (try with_reducible rfl))
        (try simp only [Act.put, nA, nB, nC])
        refine wpAnyM_take 4 (v := ?_) rfl (by kernel_rfl) (fun _ _ _ h => h) (Or.inl ⟨by rfl, ?_⟩) (by assumption) ?_
        rotate_left
        · (intro wx hSw; have q := hSw.2.cell (i := 0) (by decide); go_simp; with_reducible rfl)
        (try simp only [Act.put, nA, nB, nC])
        refine wpAnyM_take 5 (v := ?_) rfl (by kernel_rfl) (fun _ _ _ h => h) (Or.inl ⟨by rfl, ?_⟩) (by assumption) ?_
        rotate_left
        · (intro wx hSw; (try dsimp only at hSw); go_simp; (try with_reducible rfl))
        (try simp only [Act.put, nA, nB, nC])
        refine wpAnyM_take 6 (v := ?_) rfl (by kernel_rfl) (fun _ _ _ h => h) (Or.inl ⟨by rfl, ?_⟩) (by assumption) ?_
        rotate_left
        · (intro wx hSw; have q := hSw.2.cell (i := 1) (by decide); go_simp; with_reducible rfl)
        (try simp only [Act.put, nA, nB, nC])
        refine wpAnyM_take 7 (v := ?_) rfl (by kernel_rfl) (fun _ _ _ h => h) (Or.inl ⟨by rfl, ?_⟩) (by assumption) ?_
        rotate_left
        · (intro wx hSw; (try dsimp only at hSw); go_simp; (try with_reducible rfl))
        (try simp only [Act.put, nA, nB, nC])
        refine wpAnyM_take 8 (v := ?_) rfl (by kernel_rfl) (fun _ _ _ h => h) (Or.inl ⟨by rfl, ?_⟩) (by assumption) ?_
        rotate_left
        · (intro wx hSw; have q := hSw.2.cell (i := 2) (by decide); go_simp; with_reducible rfl)
        (try simp only [Act.put, nA, nB, nC])
        refine wpAnyM_take 9 (v := ?_) rfl (by kernel_rfl) (fun _ _ _ h => h) (Or.inl ⟨by rfl, ?_⟩) (by assumption) ?_
        rotate_left
        · (intro wx hSw; (try dsimp only at hSw); go_simp; (try with_reducible rfl))
        (try simp only [Act.put, nA, nB, nC])
        refine wpAnyM_take 10 (v := ?_) rfl (by kernel_rfl) (fun _ _ _ h => h) (Or.inl ⟨by rfl, ?_⟩) (by assumption) ?_
        rotate_left
        · (intro wx hSw; have q := hSw.2.cell (i := 3) (by decide); go_simp; with_reducible rfl)
        (try simp only [Act.put, nA, nB, nC])
        refine wpAnyM_take 11 (v := ?_) rfl (by kernel_rfl) (fun _ _ _ h => h) (Or.inl ⟨by rfl, ?_⟩) (by assumption) ?_
        rotate_left
        · (intro wx hSw; refine Eq.trans (run_build_q4 (.tmp 69) (.tmp 71) (.tmp 73) (.tmp 75) (by rfl) (by rfl) (by rfl) (by rfl) (by rfl)) ?_; with_reducible rfl)
        (try simp only [Act.put, nA, nB, nC])
        refine wpAnyM_twoS 2 13 rfl rfl (by kernel_rfl) (fun K hK => ?_) (fun K hK => ?_)
        · go_simp
          (refine (conj_any V _).mono ?_); rintro e w5 ⟨rfl, hb⟩; (try (have HA2 := Lib.hid (And.intro (HA.out.1.below hb) HA.out.2); clear HA; have HA := HA2; clear HA2)); have HS2 := Lib.hid (HS.out.down hb); clear HS hb; have HS := HS2; clear HS2
          (try dsimp only)
          (try simp only [Act.put, nA, nB, nC])
          clear hHeld
          refine hK.out _ _ ?_ (fun hHeld => ?_)
          · exact ⟨HS.out.e0, HS.out.e1⟩
          clear hK K
          (try simp only [Act.put, nA, nB, nC])
          refine wpAnyM_twoS 12 13 rfl rfl (by kernel_rfl) (fun K hK => ?_) (fun K hK => ?_)
          · go_simp
            (refine (qmul_any ⟨bc, 0, none⟩ _ (conjV V) (q4 (S 0) (S 1) (S 2) (S 3)) _ HS.out.cell HS.out.free).mono ?_); (rw [HD.out]); rintro e w6 ⟨rfl, hu⟩; (try (have HA2 := Lib.hid (And.intro (HA.out.1.upd hu HA.out.2.2) HA.out.2); clear HA; have HA := HA2; clear HA2)); have HS2 := Lib.hid (HS.out.upd' hu); clear HS hu; have HS := HS2; clear HS2
            (try dsimp only)
            (try simp only [Act.put, nA, nB, nC])
            clear hHeld
            refine hK.out _ _ ?_ (fun hHeld => ?_)
            · exact ⟨HS.out.e0, HS.out.e1⟩
            clear hK K
            (try simp only [Act.put, nA, nB, nC])
            refine wpAnyM_oneS 13 rfl (by kernel_rfl) (fun K hK => ?_)
            go_simp; have HA := Lib.hid (ls_nq HS.out _ (by first | (simp; rfl) | rfl)); have HS2 := Lib.hid (HS.out.alloc (.cells #[.int .i64 0, .int .i64 0, .int .i64 0, .int .i64 0] 27)); clear HS; have HS := HS2; clear HS2
            clear hHeld
            refine hK.out _ _ ?_ (fun hHeld => ?_)
            · exact ⟨HS.out.e0, HS.out.e1⟩
            clear hK K
            (try simp only [Act.put, nA, nB, nC])
            refine wpAnyM_doneL 14 rfl (by kernel_rfl) (by rfl) (by kernel_rfl) (run_store_row 27 (.tmp 13) (.tmp 77) rfl _ rfl rfl HA.out.1 (iqt.trans rfl)) ?_
            (try simp only [Act.put, nA, nB, nC])
            refine wpAnyM_done (by kernel_rfl) ?_ _
            (have HE2 := Lib.hid (HS.out.fill HA.out.1 HA.out.2.1 D).one; go_wp2_with fail; go_meet; exact ⟨_, _, _, rfl, HE2⟩)
          · go_simp; have HA := Lib.hid (ls_nq HS.out _ (by first | (simp; rfl) | rfl)); have HS2 := Lib.hid (HS.out.alloc (.cells #[.int .i64 0, .int .i64 0, .int .i64 0, .int .i64 0] 27)); clear HS; have HS := HS2; clear HS2
            clear hHeld
            refine hK.out _ _ ?_ (fun hHeld => ?_)
            · exact ⟨HS.out.e0, HS.out.e1⟩
            clear hK K
            (try simp only [Act.put, nA, nB, nC])
            refine wpAnyM_oneS 12 rfl (by kernel_rfl) (fun K hK => ?_)
            go_simp
            (refine (qmul_any ⟨bc, 0, none⟩ _ (conjV V) (q4 (S 0) (S 1) (S 2) (S 3)) _ HS.out.cell HS.out.free).mono ?_); (rw [HD.out]); rintro e w6 ⟨rfl, hu⟩; (try (have HA2 := Lib.hid (And.intro (HA.out.1.upd hu HA.out.2.2) HA.out.2); clear HA; have HA := HA2; clear HA2)); have HS2 := Lib.hid (HS.out.upd' hu); clear HS hu; have HS := HS2; clear HS2
            (try dsimp only)
            (try simp only [Act.put, nA, nB, nC])
            clear hHeld
            refine hK.out _ _ ?_ (fun hHeld => ?_)
            · exact ⟨HS.out.e0, HS.out.e1⟩
            clear hK K
            (try simp only [Act.put, nA, nB, nC])
            refine wpAnyM_doneL 14 rfl (by kernel_rfl) (by rfl) (by kernel_rfl) (run_store_row 27 (.tmp 13) (.tmp 77) rfl _ rfl rfl HA.out.1 (iqt.trans rfl)) ?_
            (try simp only [Act.put, nA, nB, nC])
            refine wpAnyM_done (by kernel_rfl) ?_ _
            (have HE2 := Lib.hid (HS.out.fill HA.out.1 HA.out.2.1 D).one; go_wp2_with fail; go_meet; exact ⟨_, _, _, rfl, HE2⟩)
        · go_simp; have HA := Lib.hid (ls_nq HS.out _ (by first | (simp; rfl) | rfl)); have HS2 := Lib.hid (HS.out.alloc (.cells #[.int .i64 0, .int .i64 0, .int .i64 0, .int .i64 0] 27)); clear HS; have HS := HS2; clear HS2
          clear hHeld
          refine hK.out _ _ ?_ (fun hHeld => ?_)
          · exact ⟨HS.out.e0, HS.out.e1⟩
          clear hK K
          (try simp only [Act.put, nA, nB, nC])
          refine wpAnyM_oneS 2 rfl (by kernel_rfl) (fun K hK => ?_)
          go_simp
          (refine (conj_any V _).mono ?_); rintro e w5 ⟨rfl, hb⟩; (try (have HA2 := Lib.hid (And.intro (HA.out.1.below hb) HA.out.2); clear HA; have HA := HA2; clear HA2)); have HS2 := Lib.hid (HS.out.down hb); clear HS hb; have HS := HS2; clear HS2
          (try dsimp only)
          (try simp only [Act.put, nA, nB, nC])
          clear hHeld
          refine hK.out _ _ ?_ (fun hHeld => ?_)
          · exact ⟨HS.out.e0, HS.out.e1⟩
          clear hK K
          (try simp only [Act.put, nA, nB, nC])
          refine wpAnyM_oneS 12 rfl (by kernel_rfl) (fun K hK => ?_)
          go_simp
          (refine (qmul_any ⟨bc, 0, none⟩ _ (conjV V) (q4 (S 0) (S 1) (S 2) (S 3)) _ HS.out.cell HS.out.free).mono ?_); (rw [HD.out]); rintro e w6 ⟨rfl, hu⟩; (try (have HA2 := Lib.hid (And.intro (HA.out.1.upd hu HA.out.2.2) HA.out.2); clear HA; have HA := HA2; clear HA2)); have HS2 := Lib.hid (HS.out.upd' hu); clear HS hu; have HS := HS2; clear HS2
          (try dsimp only)
          (try simp only [Act.put, nA, nB, nC])
          clear hHeld
          refine hK.out _ _ ?_ (fun hHeld => ?_)
          · exact ⟨HS.out.e0, HS.out.e1⟩
          clear hK K
          (try simp only [Act.put, nA, nB, nC])
          refine wpAnyM_doneL 14 rfl (by kernel_rfl) (by rfl) (by kernel_rfl) (run_store_row 27 (.tmp 13) (.tmp 77) rfl _ rfl rfl HA.out.1 (iqt.trans rfl)) ?_
          (try simp only [Act.put, nA, nB, nC])
          refine wpAnyM_done (by kernel_rfl) ?_ _
          (have HE2 := Lib.hid (HS.out.fill HA.out.1 HA.out.2.1 D).one; go_wp2_with fail; go_meet; exact ⟨_, _, _, rfl, HE2⟩)
      case rest =>
      obtain ⟨db, h2, t2, rfl, M7⟩ := hcut
      clear HS HD
      rename World => wx
      have c0 := M7.out.e0.cell (i := 0) (by decide)
      have HQ := Lib.hid (show Below w.heap.size w wx ∧ (∀ w' , Below W4.heap.size wx w' → Below w.heap.size w w') from by
        have b := below_of_upd R4.out.1 M7.out.upd (by have := R4.out.2; simp only; omega)
        exact ⟨b, fun w' k => b.trans (k.mono R4.out.1.size)⟩)
      obtain ⟨x0, hx0⟩ : ∃ x, D 0 = x := ⟨_, rfl⟩
      rw [hx0] at c0
      clear hx0
      obtain ⟨y, hy⟩ : ∃ x, D 3 = x := ⟨_, rfl⟩
      have c3 := M7.out.e0.cell (i := 3) (by decide)
      rw [hy] at c3 HB HE
      have HY := Lib.hid hy
      clear hy
      have yb := HB.out
      by_cases hn : x0 < 0
      · have en : decide (x0 < 0) = true := by simpa using hn
        have ny : IntKind.i64.wrap (-y) = -y := IntWalk.i64_in _ (by omega)
        have u3 := M7.out.e0.free 3
        clear hn yb
        go_upto_region 18 with fail
        have M8 := Lib.hid (M7.out.set (by simp) 3 (-y))
        have HW := Lib.hid (below_of_upd R4.out.1 M8.out.upd (by have := R4.out.2; simp only; omega))
        generalize wx.setCell ⟨db, 3, none⟩ (.int .i64 (-y)) = W8 at *
        clear c0 c3 u3 en ny M7 HQ
        have c3 := M8.out.e0.cell (i := 3) (by decide)
        have c1 := M8.out.e0.cell (i := 1) (by decide)
        rw [show Go.Proofs.Ytgpnopiinogkmaa.upd D 3 (-y) 3 = -y by unfold Go.Proofs.Ytgpnopiinogkmaa.upd; rw [if_pos rfl]] at c3
        rw [show Go.Proofs.Ytgpnopiinogkmaa.upd D 3 (-y) 1 = D 1 by unfold Go.Proofs.Ytgpnopiinogkmaa.upd; rw [if_neg (by decide)]] at c1
        have HE3 := Lib.hid (fun (h1 : ¬ 1099511627776 ≤ hd) (h2 : ¬ hd ≤ -1099511627776) => show D 1 = 0 ∧ -16384 ≤ -y ∧ -y ≤ 16384 from by have := HE.out h1 h2; omega)
        obtain ⟨z, hz⟩ : ∃ x, -y = x := ⟨_, rfl⟩
        obtain ⟨x1, hx1⟩ : ∃ x, D 1 = x := ⟨_, rfl⟩
        rw [hz] at c3 HE3
        rw [hx1] at c1 HE3
        clear hz hx1 HE HY HB M8
        by_cases g1 : 1099511627776 ≤ hd
        · have e1 : decide (1099511627776 ≤ hd) = true := by simpa using g1
          clear g1
          go_wp2_with fail
          go_ret
          exact ⟨rfl, HW.out⟩
        have e1 : decide (1099511627776 ≤ hd) = false := by simpa using g1
        by_cases g2 : hd ≤ -1099511627776
        · have e2 : decide (hd ≤ -1099511627776) = true := by simpa using g2
          clear g1 g2
          go_wp2_with fail
          go_ret
          exact ⟨rfl, HW.out⟩
        have e2 : decide (hd ≤ -1099511627776) = false := by simpa using g2
        obtain ⟨rfl, z1, z2⟩ := HE3.out g1 g2
        have e3 : decide (z ≤ 16384) = true := by simpa using z2
        have e4 : decide (-16384 ≤ z) = true := by simpa using z1
        clear g1 g2 z1 z2
        go_wp2_with fail
        go_ret
        exact ⟨rfl, HW.out⟩
      · have en : decide (x0 < 0) = false := by simpa using hn
        clear hn yb
        go_upto_region 18 with fail
        have HW := Lib.hid HQ.out.1
        clear c0 en HQ
        have c1 := M7.out.e0.cell (i := 1) (by decide)
        have HE3 := HE
        obtain ⟨z, hz⟩ : ∃ x, y = x := ⟨_, rfl⟩
        obtain ⟨x1, hx1⟩ : ∃ x, D 1 = x := ⟨_, rfl⟩
        rw [hz] at c3 HE3
        rw [hx1] at c1 HE3
        clear hz hx1 HE HY HB M7
        by_cases g1 : 1099511627776 ≤ hd
        · have e1 : decide (1099511627776 ≤ hd) = true := by simpa using g1
          clear g1
          go_wp2_with fail
          go_ret
          exact ⟨rfl, HW.out⟩
        have e1 : decide (1099511627776 ≤ hd) = false := by simpa using g1
        by_cases g2 : hd ≤ -1099511627776
        · have e2 : decide (hd ≤ -1099511627776) = true := by simpa using g2
          clear g1 g2
          go_wp2_with fail
          go_ret
          exact ⟨rfl, HW.out⟩
        have e2 : decide (hd ≤ -1099511627776) = false := by simpa using g2
        obtain ⟨rfl, z1, z2⟩ := HE3.out g1 g2
        have e3 : decide (z ≤ 16384) = true := by simpa using z2
        have e4 : decide (-16384 ≤ z) = true := by simpa using z1
        clear g1 g2 z1 z2
        go_wp2_with fail
        go_ret
        exact ⟨rfl, HW.out⟩
set_option maxHeartbeats 4000000 in
theorem turns16_walk (hd a n : Int) (w : World) (hh : -9223372036854775808 ≤ hd ∧ hd ≤ 9223372036854775807) :
    Calls Try.prog 3 #[.int .i64 hd, .int .i64 a, .int .i64 n] w fun e w' => e = .returned (.bool true) ∧ Below w.heap.size w w' := by
  by_cases h : a < -67108864 ∨ 67108864 < a ∨ n < 0 ∨ 40 < n
  · exact turns16_no hd a n w h
  · obtain ⟨N, rfl⟩ : ∃ N : Nat, n = (N : Int) := ⟨n.toNat, by omega⟩
    exact turns16_yes hd a N w ⟨by omega, by omega⟩ (by omega) hh
end Go.Proofs.Ytgpnopiinogkmaa
