/- The walk of the law JacMoves. -/
import Derived.Test.YtanmddenleffaaaS02
namespace Go.Proofs.Ytanmddenleffaaa
open Go.RowKit
set_option maxRecDepth 100000
def jmS (q : Nat → Int) : Nat → Int := fun i => if i < 4 then q i else if i = 4 then 1073741824 else if i = 5 then -1073741824 else if i = 6 then 536870912 else 0
def jmV : Nat → Int := vc3 16777216 33554432 (-134217728)
def jmI (us : Int) : Nat → Int := fun i => if i = 1 then us else if 5 ≤ i then jmV (i - 5) else 0
theorem jmV_at : jmV 0 = 16777216 ∧ jmV 1 = 33554432 ∧ jmV 2 = -134217728 := by decide
theorem jm_hyp {q : Nat → Int} {us : Int} (u : UnitQ q) (hu : 1000 ≤ us ∧ us ≤ 100000) {c : Nat} {d : Int} (hd : ab d ≤ 16777216) (hc : (4 ≤ c ∧ c < 24 ∧ (c < 10 ∨ 13 ≤ c)) ∨ d = 0) : JmH (upd (jmS q) c (jmS q c + d)) (jmI us) := by
  have db := ab_le hd
  have at' : ∀ i, upd (jmS q) c (jmS q c + d) i = jmS q i + (if i = c then d else 0) := fun i => by
    unfold upd
    by_cases h : i = c
    · rw [if_pos h, if_pos h, h]
    · rw [if_neg h, if_neg h]; omega
  have lo : ∀ i, i < 4 ∨ (10 ≤ i ∧ i < 13) ∨ 24 ≤ i → upd (jmS q) c (jmS q c + d) i = jmS q i := fun i hi => by
    rw [at' i]
    by_cases h : i = c
    · rw [if_pos h]
      rcases hc with h2 | h2
      · omega
      · rw [h2]; omega
    · rw [if_neg h]; omega
  have hi : ∀ i, 7 ≤ i → jmS q i = 0 := fun i h => by unfold jmS; rw [if_neg (by omega), if_neg (by omega), if_neg (by omega), if_neg (by omega)]
  have mi : ∀ k, k < 3 → -1073741824 ≤ jmS q (4 + k) ∧ jmS q (4 + k) ≤ 1073741824 := fun k hk => by
    obtain rfl | rfl | rfl : k = 0 ∨ k = 1 ∨ k = 2 := by omega
    all_goals (unfold jmS; simp)
  have b : ∀ i, -16777216 ≤ (if i = c then d else 0) ∧ (if i = c then d else 0) ≤ 16777216 := fun i => by split <;> omega
  have v := jmV_at
  have jV : ∀ k, k < 3 → ab (jmV k) ≤ 134217728 := fun k hk => by
    obtain rfl | rfl | rfl : k = 0 ∨ k = 1 ∨ k = 2 := by omega
    · rw [v.1]; decide
    · rw [v.2.1]; decide
    · rw [v.2.2]; decide
  refine ⟨?_, fun i h => by rw [lo i (by omega), hi i (by omega)], hu, fun k hk => ?_, fun k hk => ?_, fun k hk => by rw [lo _ (by omega), hi _ (by omega)], fun k hk => ?_, fun k hk => ?_, fun k hk => ?_⟩
  · refine rs_good (unitQ_congr (fun i h => ?_) u) fun i h4 h24 => ?_
    · rw [lo i (by omega)]; unfold jmS; rw [if_pos h]
    · have bx := box_at i
      have bi := b i
      rw [at' i]
      by_cases h : i < 7
      · obtain ⟨k, rfl⟩ : ∃ k, i = 4 + k := ⟨i - 4, by omega⟩
        have := mi k (by omega); omega
      · rw [hi i (by omega)]; omega
  · unfold jmI; rw [if_neg (by omega), if_neg (by omega)]
  · unfold jmI; rw [if_neg (by omega), if_pos (by omega), show 5 + k - 5 = k by omega]; exact jV k hk
  · have := b (13 + k); rw [at' _, hi _ (by omega)]; exact le_ab (by omega)
  · have := b (4 + k); have := mi k hk; rw [at' _]; exact le_ab (by omega)
  · have := b (7 + k); rw [at' _, hi _ (by omega)]; exact le_ab (by omega)
open Go in
theorem jm_bst {o : Oper} {ev : Operand → Value} {w : World} (x0 x1 x2 x3 : Operand) (ho : o.op = .build 30 #[(0, x0), (1, x1), (2, x2), (3, x3), (4, .const (.int .i64 1073741824)), (5, .const (.int .i64 (-1073741824))), (6, .const (.int .i64 536870912))]) {q : Nat → Int}
    (h0 : ev x0 = .int .i64 (q 0)) (h1 : ev x1 = .int .i64 (q 1)) (h2 : ev x2 = .int .i64 (q 2)) (h3 : ev x3 = .int .i64 (q 3)) (h4 : ev (.const (.int .i64 1073741824)) = .int .i64 1073741824) (h5 : ev (.const (.int .i64 (-1073741824))) = .int .i64 (-1073741824)) (h6 : ev (.const (.int .i64 536870912)) = .int .i64 536870912) :
    (execOp ev o).run Try.prog w = .ok (.value (.agg (arrv 24 (jmS q)))) w := by
  unfold execOp
  simp only [ho, List.map_toArray, List.map_cons, List.map_nil, h0, h1, h2, h3, h4, h5, h6]
  kernel_rfl
open Go in
theorem jm_ba3 {o : Oper} {ev : Operand → Value} {w : World} (ho : o.op = .build 31 #[(0, .const (.int .i64 16777216)), (1, .const (.int .i64 33554432)), (2, .const (.int .i64 (-134217728)))]) (h0 : ev (.const (.int .i64 16777216)) = .int .i64 16777216) (h1 : ev (.const (.int .i64 33554432)) = .int .i64 33554432) (h2 : ev (.const (.int .i64 (-134217728))) = .int .i64 (-134217728)) :
    (execOp ev o).run Try.prog w = .ok (.value (.agg (arrv 3 jmV))) w := by
  unfold execOp
  simp only [ho, List.map_toArray, List.map_cons, List.map_nil, h0, h1, h2]
  kernel_rfl
open Go in
theorem jm_bimu {o : Oper} {ev : Operand → Value} {w : World} (x y : Operand) (ho : o.op = .build 33 #[(1, x), (3, y)]) {a : Int} (hx : ev x = .int .i64 a) (hy : ev y = .agg (arrv 3 jmV)) :
    (execOp ev o).run Try.prog w = .ok (.value (.agg (arrv 8 (jmI a)))) w := by
  unfold execOp
  simp only [ho, List.map_toArray, List.map_cons, List.map_nil, hx, hy]
  kernel_rfl
theorem z4m : (#[.int .i64 0, .int .i64 0, .int .i64 0, .int .i64 0] : Array Value) = arrv 4 (fun _ => 0) := by kernel_rfl
theorem z24m : (#[.int .i64 0, .int .i64 0, .int .i64 0, .int .i64 0, .int .i64 0, .int .i64 0, .int .i64 0, .int .i64 0, .int .i64 0, .int .i64 0, .int .i64 0, .int .i64 0, .int .i64 0, .int .i64 0, .int .i64 0, .int .i64 0, .int .i64 0, .int .i64 0, .int .i64 0, .int .i64 0, .int .i64 0, .int .i64 0, .int .i64 0, .int .i64 0] : Array Value) = arrv 24 (fun _ => 0) := by kernel_rfl
set_option maxHeartbeats 4000000 in
theorem moves17_noop (c d us hd : Int) (w : World) (h : c < 4 ∨ 23 < c ∨ (10 ≤ c ∧ c < 13) ∨ d < -16777216 ∨ 16777216 < d ∨ us < 1000 ∨ 100000 < us) :
    Calls Try.prog 7 #[.int .i64 c, .int .i64 d, .int .i64 us, .int .i64 hd] w fun e w' => e = .returned (.bool true) ∧ Below w.heap.size w w' := by
  go_enter Try.func7, Try.ntmps7
  go_upto_region 3 with (go_at_call 8; (refine (awake17_any _).mono ?_); rintro e w1 ⟨rfl, hb1⟩; have S1 := Lib.hid hb1; clear hb1)
  go_wp2_with fail
  all_goals (first | (exfalso; omega) | (go_ret; exact ⟨rfl, S1.out⟩))
set_option maxHeartbeats 20000000 in
theorem moves17_yes (c : Nat) (d us hd : Int) (w : World) (hc : 4 ≤ c ∧ c < 24 ∧ (c < 10 ∨ 13 ≤ c)) (hd0 : -16777216 ≤ d ∧ d ≤ 16777216) (hu : 1000 ≤ us ∧ us ≤ 100000) :
    Calls Try.prog 7 #[.int .i64 (c : Int), .int .i64 d, .int .i64 us, .int .i64 hd] w fun e w' => e = .returned (.bool true) ∧ Below w.heap.size w w' := by
  have FY := fy_calm hd
  have dab : ab d ≤ 16777216 := le_ab hd0
  have FC0 := fun (a : Addr) (x : World) (k : x.cell? a = some (.bool false)) (f : x.frozen? a = false) => fromyaw_any a false hd x k f
  rw [FY.1, Bool.false_or] at FC0
  have uq := FY.2.2.2
  obtain ⟨q, hq⟩ : ∃ x, fyV hd = x := ⟨_, rfl⟩
  rw [hq] at FC0 uq
  have FC := Lib.hid FC0
  have HS := jm_hyp uq hu (c := 4) (d := 0) (by decide) (.inr rfl)
  have HT := jm_hyp uq hu (c := c) (d := d) dab (.inl hc)
  have eS : upd (jmS q) 4 (jmS q 4 + 0) = jmS q := by
    funext i; unfold upd; rw [Int.add_zero]
    split
    · next h => rw [h]
    · rfl
  rw [eS] at HS
  have h13 : ∀ k, k < 3 → jmS q (13 + k) = 0 := fun k hk => by unfold jmS; rw [if_neg (by omega), if_neg (by omega), if_neg (by omega), if_neg (by omega)]
  have LW := fun (k : Nat) (hk : k < 24) => jm_law HS HT h13 hc dab (fun i => rfl) hk
  have gS := good_parts (show goodB (stepN (jmS q) (jmI us)) = true from keep_good _)
  have gT := good_parts (show goodB (stepN (upd (jmS q) c (jmS q c + d)) (jmI us)) = true from keep_good _)
  have fO := jm_of HS
  have fS := (jm_step HS).1
  have fT := (jm_step HT).1
  have cb : -1073741824 ≤ jmS q c ∧ jmS q c ≤ 1073741824 := by
    unfold jmS
    rw [if_neg (by omega)]
    repeat' split
    all_goals omega
  have w1' : IntKind.i64.wrap (jmS q c + d) = jmS q c + d := IntWalk.i64_in _ (by omega)
  have HB := Lib.hid (fun i : Nat => box_at i)
  obtain ⟨S, hS⟩ : ∃ x, jmS q = x := ⟨_, rfl⟩
  have HBS := Lib.hid hS
  rw [hS] at LW gS gT fO fS fT w1'
  obtain ⟨I, hI⟩ : ∃ x, jmI us = x := ⟨_, rfl⟩
  have HBI := Lib.hid hI
  rw [hI] at LW gS gT fO fS fT
  obtain ⟨sc, hsc⟩ : ∃ x, S c = x := ⟨_, rfl⟩
  have HSC := Lib.hid hsc
  rw [hsc] at LW gT fT w1'
  obtain ⟨T, hT⟩ : ∃ x, upd S c (sc + d) = x := ⟨_, rfl⟩
  have HBT := Lib.hid hT
  rw [hT] at LW gT fT
  have OC0 := fun (a : Addr) (x : World) (k : x.cell? a = some (.bool false)) (f : x.frozen? a = false) => jof_any a false S I x k f
  rw [fO, Bool.false_or] at OC0
  obtain ⟨F, hF⟩ : ∃ x, jofF S I = x := ⟨_, rfl⟩
  rw [hF] at OC0 LW
  have OC := Lib.hid OC0
  have XC0 := fun (a : Addr) (x : World) (k : x.cell? a = some (.bool false)) (f : x.frozen? a = false) => step_any2 a false S I x k f
  rw [fS, Bool.false_or] at XC0
  obtain ⟨X, hX⟩ : ∃ x, stepN S I = x := ⟨_, rfl⟩
  rw [hX] at XC0 LW gS
  have XC := Lib.hid XC0
  have YC0 := fun (a : Addr) (x : World) (k : x.cell? a = some (.bool false)) (f : x.frozen? a = false) => step_any2 a false T I x k f
  rw [fT, Bool.false_or] at YC0
  obtain ⟨Y, hY⟩ : ∃ x, stepN T I = x := ⟨_, rfl⟩
  rw [hY] at YC0 LW gT
  have YC := Lib.hid YC0
  have bx : ∀ i, i < 24 → boxF i ≤ 9007199254740992 := by decide
  have HG := Lib.hid (show ∀ i, i < 24 → (-9007199254740992 ≤ X i ∧ X i ≤ 9007199254740992) ∧ (-9007199254740992 ≤ Y i ∧ Y i ≤ 9007199254740992) from fun i hi => by
    have a := gS.1 i hi
    have b := gT.1 i hi
    have := bx i hi
    omega)
  have LW := Lib.hid LW
  have HCD := Lib.hid (And.intro hc hd0)
  have c0 : (0 : Int) ≤ (c : Int) := Int.natCast_nonneg _
  have c1 : (c : Int) < 24 := by omega
  have t1 : decide ((c : Int) < 4) = false := by simp; omega
  have t2 : decide (23 < (c : Int)) = false := by simp; omega
  have t3 : (decide (10 ≤ (c : Int)) = false) ∨ (decide (10 ≤ (c : Int)) = true ∧ decide ((c : Int) < 13) = false) := by
    by_cases h : c < 10
    · exact .inl (by simp; omega)
    · exact .inr ⟨by simp; omega, by simp; omega⟩
  have t4 : decide (d < -16777216) = false := by simp; omega
  have t5 : decide (16777216 < d) = false := by simp; omega
  have t6 : decide (us < 1000) = false := by simp; omega
  have t7 : decide (100000 < us) = false := by simp; omega
  clear FC0 OC0 XC0 YC0 FY uq hq HS HT eS h13 gS gT fO fS fT cb hS hI hsc hT hF hX hY bx dab hd0 hu
  rcases t3 with t3 | ⟨t3, t8⟩
  all_goals
    go_enter Try.func7, Try.ntmps7
    go_upto_region 5 with (go_at_call 8; (refine (awake17_any _).mono ?_); rintro e w1 ⟨rfl, hb1⟩; have S1 := Lib.hid hb1; clear hb1)
    clear t1 t2 t3 t4 t5 t6 t7
    (try clear t8)
    go_upto_region 6 with fail
    obtain ⟨bc, hbc⟩ : ∃ x, w1.heap.size = x := ⟨_, rfl⟩
    have K4 := Lib.hid (Flg.new w1 false)
    have b4 : Below w1.heap.size w1 (w1.alloc (.cells #[.bool false] 25)) := (Below.refl _ _).alloc (Nat.le_refl _) _
    have R4 := Lib.hid (show Below w.heap.size w (w1.alloc (.cells #[.bool false] 25)) ∧ w.heap.size ≤ bc from ⟨Below.after S1.out b4, by rw [← hbc]; exact S1.out.size⟩)
    rw [hbc] at K4 ⊢
    generalize w1.alloc (.cells #[.bool false] 25) = W4 at *
    clear S1 hbc b4
    have M4 := Lib.hid (ls_nil K4.out.cell K4.out.free)
    clear K4
    refine wp_region_lit ?_
    refine wpList_val (v := ?_) rfl ?_ ?_
    rotate_left
    · (go_simp; (try (first | with_reducible rfl | (constructor <;> with_reducible rfl))))
    (try simp only [Act.put, nA, nB, nC])
    refine wpList_val (v := ?_) rfl ?_ ?_
    rotate_left
    · (go_simp; (try (first | with_reducible rfl | (constructor <;> with_reducible rfl))))
    (try simp only [Act.put, nA, nB, nC])
    refine wpList_step (fun K hK => ?_)
    go_simp
    (refine (FC.out _ _ M4.out.cell M4.out.free).mono ?_); rintro e w2 ⟨rfl, hu⟩; have M5 := Lib.hid (M4.out.upd' hu); clear hu M4
    (try dsimp only)
    (try simp only [Act.put, nA, nB, nC])
    refine hK _ _ ?_
    clear hK K
    refine wpList_act (v := ?_) (w' := ?_) rfl ?_ ?_
    rotate_left 2
    · (go_simp; (try (first | with_reducible rfl | (constructor <;> with_reducible rfl))))
    (try simp only [Act.put, nA, nB, nC])
    refine wpList_done (w' := ?_) rfl ?_ ?_
    rotate_left
    · (refine Eq.trans (run_store_row 40 (.tmp 10) (.tmp 56) (by rfl) (w2.heap.size) (by rfl) (by rfl) (show Blk (w2.alloc (.cells #[.int .i64 0, .int .i64 0, .int .i64 0, .int .i64 0] 40)) w2.heap.size 40 4 (fun _ => 0) by rw [z4m]; exact Blk.new _ _ _ _) (iqt.trans rfl)) ?_; with_reducible rfl)
    (try simp only [Act.put, nA, nB, nC])
    refine wpList_nil ?_
    have M6 := M5.out.put 40 4 (fun _ => 0) q
    rw [← z4m] at M6
    have M6 := Lib.hid M6
    obtain ⟨qb, hqb⟩ : ∃ x, w2.heap.size = x := ⟨_, rfl⟩
    rw [hqb] at M6 ⊢
    generalize (w2.alloc (.cells #[.int .i64 0, .int .i64 0, .int .i64 0, .int .i64 0] 40)).setRow qb (arrv 4 q) = W6 at *
    clear M5 hqb
    have e0 := M6.out.e0.cell (i := 0) (by decide)
    have e1 := M6.out.e0.cell (i := 1) (by decide)
    have e2 := M6.out.e0.cell (i := 2) (by decide)
    have e3 := M6.out.e0.cell (i := 3) (by decide)
    go_upto_region 7 with fail
    refine wp_region_lit ?_
    refine wpList_val (v := ?_) rfl ?_ ?_
    rotate_left
    · (go_simp; (try (first | with_reducible rfl | (constructor <;> with_reducible rfl))))
    (try simp only [Act.put, nA, nB, nC])
    refine wpList_val (v := ?_) rfl ?_ ?_
    rotate_left
    · (go_simp; (try (first | with_reducible rfl | (constructor <;> with_reducible rfl))))
    (try simp only [Act.put, nA, nB, nC])
    refine wpList_val (v := ?_) rfl ?_ ?_
    rotate_left
    · (go_simp; (try (first | with_reducible rfl | (constructor <;> with_reducible rfl))))
    (try simp only [Act.put, nA, nB, nC])
    refine wpList_val (v := ?_) rfl ?_ ?_
    rotate_left
    · (go_simp; (try (first | with_reducible rfl | (constructor <;> with_reducible rfl))))
    (try simp only [Act.put, nA, nB, nC])
    refine wpList_val (v := ?_) rfl ?_ ?_
    rotate_left
    · (go_simp; (try (first | with_reducible rfl | (constructor <;> with_reducible rfl))))
    (try simp only [Act.put, nA, nB, nC])
    refine wpList_val (v := ?_) rfl ?_ ?_
    rotate_left
    · (go_simp; (try (first | with_reducible rfl | (constructor <;> with_reducible rfl))))
    (try simp only [Act.put, nA, nB, nC])
    refine wpList_val (v := ?_) rfl ?_ ?_
    rotate_left
    · (go_simp; (try (first | with_reducible rfl | (constructor <;> with_reducible rfl))))
    (try simp only [Act.put, nA, nB, nC])
    refine wpList_val (v := ?_) rfl ?_ ?_
    rotate_left
    · (go_simp; (try (first | with_reducible rfl | (constructor <;> with_reducible rfl))))
    (try simp only [Act.put, nA, nB, nC])
    refine wpList_val (v := ?_) rfl ?_ ?_
    rotate_left
    · (refine Eq.trans (jm_bst (q := q) (.tmp 58) (.tmp 60) (.tmp 62) (.tmp 64) (by rfl) (by rfl) (by rfl) (by rfl) (by rfl) (by rfl) (by rfl) (by rfl)) ?_; rw [HBS.out])
    (try simp only [Act.put, nA, nB, nC])
    refine wpList_act (v := ?_) (w' := ?_) rfl ?_ ?_
    rotate_left 2
    · (go_simp; (try (first | with_reducible rfl | (constructor <;> with_reducible rfl))))
    (try simp only [Act.put, nA, nB, nC])
    refine wpList_done (w' := ?_) rfl ?_ ?_
    rotate_left
    · (refine Eq.trans (run_store_row 30 (.tmp 11) (.tmp 65) (by rfl) (W6.heap.size) (by rfl) (by rfl) (show Blk (W6.alloc (.cells #[.int .i64 0, .int .i64 0, .int .i64 0, .int .i64 0, .int .i64 0, .int .i64 0, .int .i64 0, .int .i64 0, .int .i64 0, .int .i64 0, .int .i64 0, .int .i64 0, .int .i64 0, .int .i64 0, .int .i64 0, .int .i64 0, .int .i64 0, .int .i64 0, .int .i64 0, .int .i64 0, .int .i64 0, .int .i64 0, .int .i64 0, .int .i64 0] 30)) W6.heap.size 30 24 (fun _ => 0) by rw [z24m]; exact Blk.new _ _ _ _) (ist.trans rfl)) ?_; with_reducible rfl)
    (try simp only [Act.put, nA, nB, nC])
    refine wpList_nil ?_
    clear e0 e1 e2 e3
    have M7 := M6.out.put 30 24 (fun _ => 0) S
    rw [← z24m] at M7
    have M7 := Lib.hid M7
    obtain ⟨sb, hsb⟩ : ∃ x, W6.heap.size = x := ⟨_, rfl⟩
    rw [hsb] at M7 ⊢
    generalize (W6.alloc (.cells #[.int .i64 0, .int .i64 0, .int .i64 0, .int .i64 0, .int .i64 0, .int .i64 0, .int .i64 0, .int .i64 0, .int .i64 0, .int .i64 0, .int .i64 0, .int .i64 0, .int .i64 0, .int .i64 0, .int .i64 0, .int .i64 0, .int .i64 0, .int .i64 0, .int .i64 0, .int .i64 0, .int .i64 0, .int .i64 0, .int .i64 0, .int .i64 0] 30)).setRow sb (arrv 24 S) = W7 at *
    clear M6 hsb
    go_upto_region 8 with fail
    refine wp_region_lit ?_
    refine wpList_val (v := ?_) rfl ?_ ?_
    rotate_left
    · (go_simp; (try (first | with_reducible rfl | (constructor <;> with_reducible rfl))))
    (try simp only [Act.put, nA, nB, nC])
    refine wpList_val (v := ?_) rfl ?_ ?_
    rotate_left
    · (refine Eq.trans (jm_ba3 (by rfl) (by rfl) (by rfl) (by rfl)) ?_; with_reducible rfl)
    (try simp only [Act.put, nA, nB, nC])
    refine wpList_val (v := ?_) rfl ?_ ?_
    rotate_left
    · (refine Eq.trans (jm_bimu (.tmp 66) (.tmp 67) (by rfl) (by rfl) (by rfl)) ?_; rw [HBI.out])
    (try simp only [Act.put, nA, nB, nC])
    refine wpList_act (v := ?_) (w' := ?_) rfl ?_ ?_
    rotate_left 2
    · (go_simp; (try (first | with_reducible rfl | (constructor <;> with_reducible rfl))))
    (try simp only [Act.put, nA, nB, nC])
    refine wpList_done (w' := ?_) rfl ?_ ?_
    rotate_left
    · (refine Eq.trans (run_store_row 33 (.tmp 12) (.tmp 68) (by rfl) (W7.heap.size) (by rfl) (by rfl) (show Blk (W7.alloc (.cells #[.int .i64 0, .int .i64 0, .int .i64 0, .int .i64 0, .int .i64 0, .int .i64 0, .int .i64 0, .int .i64 0] 33)) W7.heap.size 33 8 (fun _ => 0) by rw [ja_z8]; exact Blk.new _ _ _ _) (iimu.trans rfl)) ?_; with_reducible rfl)
    (try simp only [Act.put, nA, nB, nC])
    refine wpList_nil ?_
    have M8 := M7.out.put 33 8 (fun _ => 0) I
    rw [← ja_z8] at M8
    have M8 := Lib.hid M8
    obtain ⟨ib, hib⟩ : ∃ x, W7.heap.size = x := ⟨_, rfl⟩
    rw [hib] at M8 ⊢
    generalize (W7.alloc (.cells #[.int .i64 0, .int .i64 0, .int .i64 0, .int .i64 0, .int .i64 0, .int .i64 0, .int .i64 0, .int .i64 0] 33)).setRow ib (arrv 8 I) = W8 at *
    clear M7 hib
    have s8 := M8.out.e1
    have i8 := M8.out.e0
    go_upto_region 9 with fail
    refine wp_region_lit ?_
    refine wpList_val (v := ?_) rfl ?_ ?_
    rotate_left
    · (go_simp; (try (first | with_reducible rfl | (constructor <;> with_reducible rfl))))
    (try simp only [Act.put, nA, nB, nC])
    refine wpList_val (v := ?_) rfl ?_ ?_
    rotate_left
    · refine Eq.trans (run_load_row 30 (.tmp 11) (by rfl) (sb) (by rfl) _ _ _ _ (s8) Try.underlying30 rfl (ist.trans (by rw [arrv_size]))) ?_; with_reducible rfl
    (try simp only [Act.put, nA, nB, nC])
    refine wpList_val (v := ?_) rfl ?_ ?_
    rotate_left
    · (refine Eq.trans (run_load_row 33 (.tmp 12) (by rfl) ib (by rfl) _ _ _ _ i8 Try.underlying33 rfl (iimu.trans (by rw [arrv_size]))) ?_; with_reducible rfl)
    (try simp only [Act.put, nA, nB, nC])
    refine wpList_step (fun K hK => ?_)
    go_simp
    (refine (OC.out _ _ M8.out.cell M8.out.free).mono ?_); rintro e w9 ⟨rfl, hu⟩; have M9 := Lib.hid (M8.out.upd' hu); clear hu M8 s8 i8
    (try dsimp only)
    (try simp only [Act.put, nA, nB, nC])
    refine hK _ _ ?_
    clear hK K
    refine wpList_act (v := ?_) (w' := ?_) rfl ?_ ?_
    rotate_left 2
    · (go_simp; (try (first | with_reducible rfl | (constructor <;> with_reducible rfl))))
    (try simp only [Act.put, nA, nB, nC])
    refine wpList_done (w' := ?_) rfl ?_ ?_
    rotate_left
    · (refine Eq.trans (run_store_row 28 (.tmp 13) (.tmp 72) (by rfl) (w9.heap.size) (by rfl) (by rfl) (show Blk (w9.alloc (.cells Try.zeroCells28 28)) w9.heap.size 28 576 (fun _ => 0) by rw [zmat]; exact Blk.new _ _ _ _) (imat.trans rfl)) ?_; with_reducible rfl)
    (try simp only [Act.put, nA, nB, nC])
    refine wpList_nil ?_
    have Ma := M9.out.put 28 576 (fun _ => 0) F
    rw [← zmat] at Ma
    have Ma := Lib.hid Ma
    obtain ⟨fb, hfb⟩ : ∃ x, w9.heap.size = x := ⟨_, rfl⟩
    rw [hfb] at Ma ⊢
    generalize (w9.alloc (.cells Try.zeroCells28 28)).setRow fb (arrv 576 F) = Wa at *
    clear M9 hfb
    have s8 := Ma.out.e2
    go_upto_region 10 with fail
    refine wp_region_lit ?_
    refine wpList_val (v := ?_) rfl ?_ ?_
    rotate_left
    · refine Eq.trans (run_load_row 30 (.tmp 11) (by rfl) (sb) (by rfl) _ _ _ _ (s8) Try.underlying30 rfl (ist.trans (by rw [arrv_size]))) ?_; with_reducible rfl
    (try simp only [Act.put, nA, nB, nC])
    refine wpList_act (v := ?_) (w' := ?_) rfl ?_ ?_
    rotate_left 2
    · (go_simp; (try (first | with_reducible rfl | (constructor <;> with_reducible rfl))))
    (try simp only [Act.put, nA, nB, nC])
    refine wpList_done (w' := ?_) rfl ?_ ?_
    rotate_left
    · (refine Eq.trans (run_store_row 30 (.tmp 14) (.tmp 73) (by rfl) (Wa.heap.size) (by rfl) (by rfl) (show Blk (Wa.alloc (.cells #[.int .i64 0, .int .i64 0, .int .i64 0, .int .i64 0, .int .i64 0, .int .i64 0, .int .i64 0, .int .i64 0, .int .i64 0, .int .i64 0, .int .i64 0, .int .i64 0, .int .i64 0, .int .i64 0, .int .i64 0, .int .i64 0, .int .i64 0, .int .i64 0, .int .i64 0, .int .i64 0, .int .i64 0, .int .i64 0, .int .i64 0, .int .i64 0] 30)) Wa.heap.size 30 24 (fun _ => 0) by rw [z24m]; exact Blk.new _ _ _ _) (ist.trans rfl)) ?_; with_reducible rfl)
    (try simp only [Act.put, nA, nB, nC])
    refine wpList_nil ?_
    clear s8
    have Mb := Ma.out.put 30 24 (fun _ => 0) S
    rw [← z24m] at Mb
    have Mb := Lib.hid Mb
    obtain ⟨tb, htb⟩ : ∃ x, Wa.heap.size = x := ⟨_, rfl⟩
    have hnb := Lib.hid (fun (e : Lx) he => (show e.b ≠ tb from by have := (Ma.out.ex e he).2.2; have := Ma.out.le; omega))
    rw [htb] at Mb ⊢
    generalize (Wa.alloc (.cells #[.int .i64 0, .int .i64 0, .int .i64 0, .int .i64 0, .int .i64 0, .int .i64 0, .int .i64 0, .int .i64 0, .int .i64 0, .int .i64 0, .int .i64 0, .int .i64 0, .int .i64 0, .int .i64 0, .int .i64 0, .int .i64 0, .int .i64 0, .int .i64 0, .int .i64 0, .int .i64 0, .int .i64 0, .int .i64 0, .int .i64 0, .int .i64 0] 30)).setRow tb (arrv 24 S) = Wb at *
    clear Ma htb
    have k0 := Mb.out.e0.cell (i := c) (by have := HCD.out.1; omega)
    have k1 := Mb.out.e0.free c
    rw [HSC.out] at k0
    go_upto_region 12 with fail
    have Mc := Mb.out.set hnb.out c (sc + d)
    rw [HBT.out] at Mc
    have Mc := Lib.hid Mc
    generalize Wb.setCell ⟨tb, c, none⟩ (.int .i64 (sc + d)) = Wc at *
    clear Mb k0 k1 hnb
    have s8 := Mc.out.e3
    have i8 := Mc.out.e2
    refine wp_region_lit ?_
    refine wpList_val (v := ?_) rfl ?_ ?_
    rotate_left
    · (go_simp; (try (first | with_reducible rfl | (constructor <;> with_reducible rfl))))
    (try simp only [Act.put, nA, nB, nC])
    refine wpList_val (v := ?_) rfl ?_ ?_
    rotate_left
    · refine Eq.trans (run_load_row 30 (.tmp 11) (by rfl) (sb) (by rfl) _ _ _ _ (s8) Try.underlying30 rfl (ist.trans (by rw [arrv_size]))) ?_; with_reducible rfl
    (try simp only [Act.put, nA, nB, nC])
    refine wpList_val (v := ?_) rfl ?_ ?_
    rotate_left
    · (refine Eq.trans (run_load_row 33 (.tmp 12) (by rfl) ib (by rfl) _ _ _ _ i8 Try.underlying33 rfl (iimu.trans (by rw [arrv_size]))) ?_; with_reducible rfl)
    (try simp only [Act.put, nA, nB, nC])
    refine wpList_step (fun K hK => ?_)
    go_simp
    (refine (XC.out _ _ Mc.out.cell Mc.out.free).mono ?_); rintro e wd ⟨rfl, hu⟩; have Md := Lib.hid (Mc.out.upd' hu); clear hu Mc s8 i8
    (try dsimp only)
    (try simp only [Act.put, nA, nB, nC])
    refine hK _ _ ?_
    clear hK K
    refine wpList_act (v := ?_) (w' := ?_) rfl ?_ ?_
    rotate_left 2
    · (go_simp; (try (first | with_reducible rfl | (constructor <;> with_reducible rfl))))
    (try simp only [Act.put, nA, nB, nC])
    refine wpList_done (w' := ?_) rfl ?_ ?_
    rotate_left
    · (refine Eq.trans (run_store_row 30 (.tmp 15) (.tmp 84) (by rfl) (wd.heap.size) (by rfl) (by rfl) (show Blk (wd.alloc (.cells #[.int .i64 0, .int .i64 0, .int .i64 0, .int .i64 0, .int .i64 0, .int .i64 0, .int .i64 0, .int .i64 0, .int .i64 0, .int .i64 0, .int .i64 0, .int .i64 0, .int .i64 0, .int .i64 0, .int .i64 0, .int .i64 0, .int .i64 0, .int .i64 0, .int .i64 0, .int .i64 0, .int .i64 0, .int .i64 0, .int .i64 0, .int .i64 0] 30)) wd.heap.size 30 24 (fun _ => 0) by rw [z24m]; exact Blk.new _ _ _ _) (ist.trans rfl)) ?_; with_reducible rfl)
    (try simp only [Act.put, nA, nB, nC])
    refine wpList_nil ?_
    have Me := Md.out.put 30 24 (fun _ => 0) X
    rw [← z24m] at Me
    have Me := Lib.hid Me
    obtain ⟨xb, hxb⟩ : ∃ x, wd.heap.size = x := ⟨_, rfl⟩
    rw [hxb] at Me ⊢
    generalize (wd.alloc (.cells #[.int .i64 0, .int .i64 0, .int .i64 0, .int .i64 0, .int .i64 0, .int .i64 0, .int .i64 0, .int .i64 0, .int .i64 0, .int .i64 0, .int .i64 0, .int .i64 0, .int .i64 0, .int .i64 0, .int .i64 0, .int .i64 0, .int .i64 0, .int .i64 0, .int .i64 0, .int .i64 0, .int .i64 0, .int .i64 0, .int .i64 0, .int .i64 0] 30)).setRow xb (arrv 24 X) = We at *
    clear Md hxb
    have t8 := Me.out.e1
    have i8 := Me.out.e3
    go_upto_region 13 with fail
    refine wp_region_lit ?_
    refine wpList_val (v := ?_) rfl ?_ ?_
    rotate_left
    · (go_simp; (try (first | with_reducible rfl | (constructor <;> with_reducible rfl))))
    (try simp only [Act.put, nA, nB, nC])
    refine wpList_val (v := ?_) rfl ?_ ?_
    rotate_left
    · refine Eq.trans (run_load_row 30 (.tmp 14) (by rfl) (tb) (by rfl) _ _ _ _ (t8) Try.underlying30 rfl (ist.trans (by rw [arrv_size]))) ?_; with_reducible rfl
    (try simp only [Act.put, nA, nB, nC])
    refine wpList_val (v := ?_) rfl ?_ ?_
    rotate_left
    · (refine Eq.trans (run_load_row 33 (.tmp 12) (by rfl) ib (by rfl) _ _ _ _ i8 Try.underlying33 rfl (iimu.trans (by rw [arrv_size]))) ?_; with_reducible rfl)
    (try simp only [Act.put, nA, nB, nC])
    refine wpList_step (fun K hK => ?_)
    go_simp
    (refine (YC.out _ _ Me.out.cell Me.out.free).mono ?_); rintro e wf ⟨rfl, hu⟩; have Mf := Lib.hid (Me.out.upd' hu); clear hu Me t8 i8
    (try dsimp only)
    (try simp only [Act.put, nA, nB, nC])
    refine hK _ _ ?_
    clear hK K
    refine wpList_act (v := ?_) (w' := ?_) rfl ?_ ?_
    rotate_left 2
    · (go_simp; (try (first | with_reducible rfl | (constructor <;> with_reducible rfl))))
    (try simp only [Act.put, nA, nB, nC])
    refine wpList_done (w' := ?_) rfl ?_ ?_
    rotate_left
    · (refine Eq.trans (run_store_row 30 (.tmp 16) (.tmp 88) (by rfl) (wf.heap.size) (by rfl) (by rfl) (show Blk (wf.alloc (.cells #[.int .i64 0, .int .i64 0, .int .i64 0, .int .i64 0, .int .i64 0, .int .i64 0, .int .i64 0, .int .i64 0, .int .i64 0, .int .i64 0, .int .i64 0, .int .i64 0, .int .i64 0, .int .i64 0, .int .i64 0, .int .i64 0, .int .i64 0, .int .i64 0, .int .i64 0, .int .i64 0, .int .i64 0, .int .i64 0, .int .i64 0, .int .i64 0] 30)) wf.heap.size 30 24 (fun _ => 0) by rw [z24m]; exact Blk.new _ _ _ _) (ist.trans rfl)) ?_; with_reducible rfl)
    (try simp only [Act.put, nA, nB, nC])
    refine wpList_nil ?_
    have Mg := Mf.out.put 30 24 (fun _ => 0) Y
    rw [← z24m] at Mg
    have Mg := Lib.hid Mg
    obtain ⟨yb, hyb⟩ : ∃ x, wf.heap.size = x := ⟨_, rfl⟩
    rw [hyb] at Mg ⊢
    generalize (wf.alloc (.cells #[.int .i64 0, .int .i64 0, .int .i64 0, .int .i64 0, .int .i64 0, .int .i64 0, .int .i64 0, .int .i64 0, .int .i64 0, .int .i64 0, .int .i64 0, .int .i64 0, .int .i64 0, .int .i64 0, .int .i64 0, .int .i64 0, .int .i64 0, .int .i64 0, .int .i64 0, .int .i64 0, .int .i64 0, .int .i64 0, .int .i64 0, .int .i64 0] 30)).setRow yb (arrv 24 Y) = Wg at *
    clear Mf hyb
    have Mh := Lib.hid (Mg.out.sub (E' := [⟨yb, 30, 24, Y⟩, ⟨xb, 30, 24, X⟩, ⟨fb, 28, 576, F⟩]) (fun e he => by simp only [List.mem_cons, List.not_mem_nil, or_false] at he ⊢; rcases he with h | h | h <;> simp [h]))
    clear Mg
    obtain ⟨top, htop⟩ : ∃ x, yb + 1 = x := ⟨_, rfl⟩
    rw [htop] at Mh
    clear htop
    go_wp2_with fail
    go_loopw [17] (fun v wr => ∃ k : Nat, k ≤ 24 ∧ v = .int .i64 k ∧ Hid (LsR ⟨bc, 0, none⟩ false [⟨yb, 30, 24, Y⟩, ⟨xb, 30, 24, X⟩, ⟨fb, 28, 576, F⟩] top W4 wr)) (fun v _ => 24 - (intOf v).toNat)
    case atStart => exact ⟨0, by omega, rfl, Mh⟩
    case round =>
      obtain ⟨k, hk, rfl, R⟩ := hrel
      clear Mh
      by_cases hkt : k < 24
      · have d2 : decide ((k : Int) < 24) = true := by simp; omega
        have k0 : (0 : Int) ≤ (k : Int) := Int.natCast_nonneg _
        have k1 : (k : Int) < 24 := by omega
        have l := LW.out k hkt
        have hg := HG.out k hkt
        have MC0 := fun (x : World) (k1 : x.cell? ⟨bc, 0, none⟩ = some (.bool false)) (k2 : x.frozen? ⟨bc, 0, none⟩ = false) => fmul_any ⟨bc, 0, none⟩ false (F (k * 24 + c)) d 30 x k1 k2
        rw [l.1, Bool.false_or] at MC0
        obtain ⟨x, hx⟩ : ∃ z, X k = z := ⟨_, rfl⟩
        obtain ⟨y, hy⟩ : ∃ z, Y k = z := ⟨_, rfl⟩
        obtain ⟨f, hf⟩ : ∃ z, F (k * 24 + c) = z := ⟨_, rfl⟩
        rw [hf] at MC0 l
        obtain ⟨m, hm⟩ : ∃ z, mulV f d 30 = z := ⟨_, rfl⟩
        rw [hm] at MC0 l
        rw [hx, hy] at l hg
        have MC := Lib.hid MC0
        have HXY := Lib.hid (And.intro hx (And.intro hy hf))
        have l2 := ab_le l.2.1
        have w1' : IntKind.i64.wrap (y - x) = y - x := IntWalk.i64_in _ (by omega)
        have w2' : IntKind.i64.wrap (y - x - m) = y - x - m := IntWalk.i64_in _ (by omega)
        have g6 : IntKind.i64.wrap (-4) = -4 := by decide
        have g7 : IntKind.i64.wrap (-262144) = -262144 := by decide
        have l3 := l.2.2
        obtain ⟨z, hz⟩ : ∃ z, y - x - m = z := ⟨_, rfl⟩
        rw [hz] at l3
        have hcs : (decide (13 ≤ (c : Int)) = false ∧ decide (4 < z) = false ∧ decide (z < -4) = false) ∨ (decide (13 ≤ (c : Int)) = true ∧ decide ((c : Int) < 16) = false ∧ decide (4 < z) = false ∧ decide (z < -4) = false) ∨
            (decide (13 ≤ (c : Int)) = true ∧ decide ((c : Int) < 16) = true ∧ decide (7 ≤ (k : Int)) = false ∧ decide (4 < z) = false ∧ decide (z < -4) = false) ∨
            (decide (13 ≤ (c : Int)) = true ∧ decide ((c : Int) < 16) = true ∧ decide (7 ≤ (k : Int)) = true ∧ decide ((k : Int) < 10) = false ∧ decide (4 < z) = false ∧ decide (z < -4) = false) ∨
            (decide (13 ≤ (c : Int)) = true ∧ decide ((c : Int) < 16) = true ∧ decide (7 ≤ (k : Int)) = true ∧ decide ((k : Int) < 10) = true ∧ decide (262144 < z) = false ∧ decide (z < -262144) = false) := by
          by_cases a1 : 13 ≤ c
          · by_cases a2 : c < 16
            · by_cases a3 : 7 ≤ k
              · by_cases a4 : k < 10
                · rw [if_pos ⟨a1, a2, a3, a4⟩] at l3
                  have := ab_le l3
                  exact .inr (.inr (.inr (.inr ⟨by simp; omega, by simp; omega, by simp; omega, by simp; omega, by simp; omega, by simp; omega⟩)))
                · rw [if_neg (by omega)] at l3
                  have := ab_le l3
                  exact .inr (.inr (.inr (.inl ⟨by simp; omega, by simp; omega, by simp; omega, by simp; omega, by simp; omega, by simp; omega⟩)))
              · rw [if_neg (by omega)] at l3
                have := ab_le l3
                exact .inr (.inr (.inl ⟨by simp; omega, by simp; omega, by simp; omega, by simp; omega, by simp; omega⟩))
            · rw [if_neg (by omega)] at l3
              have := ab_le l3
              exact .inr (.inl ⟨by simp; omega, by simp; omega, by simp; omega, by simp; omega⟩)
          · rw [if_neg (by omega)] at l3
            have := ab_le l3
            exact .inl ⟨by simp; omega, by simp; omega, by simp; omega⟩
        have HCS := Lib.hid hcs
        have HZ := Lib.hid (show IntKind.i64.wrap (y - x - m) = z by rw [w2', hz])
        clear l l2 l3 hg hx hy hf hm hz hcs w2'
        have w2' := HZ.out
        have HS := Lib.hid R.out.drew
        clear R
        go_upto_region 17 with fail
        refine wp_region_M (fun w' => w'.cell? ⟨yb, k, none⟩ = some (.int .i64 y) ∧ w'.cell? ⟨xb, k, none⟩ = some (.int .i64 x) ∧ w'.cell? ⟨fb, k * 24 + c, none⟩ = some (.int .i64 f)) 16 (by kernel_rfl) ?_ (fun hHeld => ?_)
        · (have q1 := HS.out.e0.cell (i := k) hkt; have q2 := HS.out.e1.cell (i := k) hkt; have q3 := HS.out.e2.cell (i := k * 24 + c) (by have := HCD.out.1; omega); rw [HXY.out.2.1] at q1; rw [HXY.out.1] at q2; rw [HXY.out.2.2] at q3; exact ⟨q1, q2, q3⟩)
        refine wpAnyM_take 0 (v := ?_) rfl (by kernel_rfl) (fun _ _ _ h => h) (Or.inl ⟨by rfl, ?_⟩) (by assumption) ?_
        rotate_left
        · (intro wx hSw; (try dsimp only at hSw); go_simp; (try with_reducible rfl))
        (try simp only [Act.put, nA, nB, nC])
        refine wpAnyM_take 1 (v := ?_) rfl (by kernel_rfl) (fun _ _ _ h => h) (Or.inl ⟨by rfl, ?_⟩) (by assumption) ?_
        rotate_left
        · (intro wx hSw; (try dsimp only at hSw); go_simp; (try with_reducible rfl))
        (try simp only [Act.put, nA, nB, nC])
        refine wpAnyM_take 2 (v := ?_) rfl (by kernel_rfl) (fun _ _ _ h => h) (Or.inl ⟨by rfl, ?_⟩) (by assumption) ?_
        rotate_left
        · (intro wx hSw; (try dsimp only at hSw); go_simp; (try with_reducible rfl))
        (try simp only [Act.put, nA, nB, nC])
        refine wpAnyM_take 3 (v := ?_) rfl (by kernel_rfl) (fun _ _ _ h => h) (Or.inl ⟨by rfl, ?_⟩) (by assumption) ?_
        rotate_left
        · (intro wx hSw; (try dsimp only at hSw); go_simp; (try with_reducible rfl))
        (try simp only [Act.put, nA, nB, nC])
        refine wpAnyM_take 4 (v := ?_) rfl (by kernel_rfl) (fun _ _ _ h => h) (Or.inl ⟨by rfl, ?_⟩) (by assumption) ?_
        rotate_left
        · (intro wx hSw; (try dsimp only at hSw); go_simp; (try with_reducible rfl))
        (try simp only [Act.put, nA, nB, nC])
        refine wpAnyM_take 5 (v := ?_) rfl (by kernel_rfl) (fun _ _ _ h => h) (Or.inl ⟨by rfl, ?_⟩) (by assumption) ?_
        rotate_left
        · (intro wx hSw; (try dsimp only at hSw); go_simp; (try with_reducible rfl))
        (try simp only [Act.put, nA, nB, nC])
        refine wpAnyM_take 6 (v := ?_) rfl (by kernel_rfl) (fun _ _ _ h => h) (Or.inl ⟨by rfl, ?_⟩) (by assumption) ?_
        rotate_left
        · (intro wx hSw; (try dsimp only at hSw); go_simp; (try with_reducible rfl))
        (try simp only [Act.put, nA, nB, nC])
        refine wpAnyM_take 7 (v := ?_) rfl (by kernel_rfl) (fun _ _ _ h => h) (Or.inl ⟨by rfl, ?_⟩) (by assumption) ?_
        rotate_left
        · (intro wx hSw; (try dsimp only at hSw); go_simp; (try with_reducible rfl))
        (try simp only [Act.put, nA, nB, nC])
        refine wpAnyM_take 8 (v := ?_) rfl (by kernel_rfl) (fun _ _ _ h => h) (Or.inl ⟨by rfl, ?_⟩) (by assumption) ?_
        rotate_left
        · (intro wx hSw; (try dsimp only at hSw); go_simp; (try with_reducible rfl))
        (try simp only [Act.put, nA, nB, nC])
        refine wpAnyM_take 9 (v := ?_) rfl (by kernel_rfl) (fun _ _ _ h => h) (Or.inl ⟨by rfl, ?_⟩) (by assumption) ?_
        rotate_left
        · (intro wx hSw; (try dsimp only at hSw); go_simp; (try with_reducible rfl))
        (try simp only [Act.put, nA, nB, nC])
        refine wpAnyM_take 10 (v := ?_) rfl (by kernel_rfl) (fun _ _ _ h => h) (Or.inl ⟨by rfl, ?_⟩) (by assumption) ?_
        rotate_left
        · (intro wx hSw; (try dsimp only at hSw); go_simp; (try with_reducible rfl))
        (try simp only [Act.put, nA, nB, nC])
        refine wpAnyM_take 11 (v := ?_) rfl (by kernel_rfl) (fun _ _ _ h => h) (Or.inl ⟨by rfl, ?_⟩) (by assumption) ?_
        rotate_left
        · (intro wx hSw; (try dsimp only at hSw); go_simp; (try with_reducible rfl))
        (try simp only [Act.put, nA, nB, nC])
        refine wpAnyM_take 12 (v := ?_) rfl (by kernel_rfl) (fun _ _ _ h => h) (Or.inl ⟨by rfl, ?_⟩) (by assumption) ?_
        rotate_left
        · (intro wx hSw; (try dsimp only at hSw); go_simp; (try with_reducible rfl))
        (try simp only [Act.put, nA, nB, nC])
        refine wpAnyM_take 13 (v := ?_) rfl (by kernel_rfl) (fun _ _ _ h => h) (Or.inl ⟨by rfl, ?_⟩) (by assumption) ?_
        rotate_left
        · (intro wx hSw; (try dsimp only at hSw); go_simp; (try with_reducible rfl))
        (try simp only [Act.put, nA, nB, nC])
        refine wpAnyM_oneS 14 rfl (by kernel_rfl) (fun K hK => ?_)
        go_simp
        (refine (MC.out _ HS.out.cell HS.out.free).mono ?_); rintro e wm ⟨rfl, hu⟩; have HS2 := Lib.hid (HS.out.upd' hu); clear HS hu; have HS := HS2; clear HS2
        (try dsimp only)
        (try simp only [Act.put, nA, nB, nC])
        clear hHeld
        refine hK.out _ _ ?_ (fun hHeld => ?_)
        · (have q1 := HS.out.e0.cell (i := k) hkt; have q2 := HS.out.e1.cell (i := k) hkt; have q3 := HS.out.e2.cell (i := k * 24 + c) (by have := HCD.out.1; omega); rw [HXY.out.2.1] at q1; rw [HXY.out.1] at q2; rw [HXY.out.2.2] at q3; exact ⟨q1, q2, q3⟩)
        clear hK K
        (try simp only [Act.put, nA, nB, nC])
        refine wpAnyM_take 15 (v := ?_) rfl (by kernel_rfl) (fun _ _ _ h => h) (Or.inl ⟨by rfl, ?_⟩) (by assumption) ?_
        rotate_left
        · (intro wx hSw; (try dsimp only at hSw); go_simp; (try with_reducible rfl))
        (try simp only [Act.put, nA, nB, nC])
        refine wpAnyM_one 16 rfl (by kernel_rfl) (fun K hK => ?_)
        go_simp
        refine hK.out _ _ (.inl (by kernel_rfl)) (fun _ => ?_)
        clear hK K
        (try simp only [Act.put, nA, nB, nC])
        refine wpAnyM_done (by kernel_rfl) ?_ _
        (try rw [w1']); (try rw [w2'])
        clear w1' w2'
        rcases HCS.out with ⟨e1, e2, e3⟩ | ⟨e1, e4, e2, e3⟩ | ⟨e1, e4, e5, e2, e3⟩ | ⟨e1, e4, e5, e6, e2, e3⟩ | ⟨e1, e4, e5, e6, e2, e3⟩
        all_goals
          go_upto_region 19 with fail
          go_wp2_with fail
          go_roundw
          case rel => exact ⟨k + 1, by omega, by go_num, HS⟩
          case measure => simp [intOf]; omega
      · have hk24 : k = 24 := by omega
        subst hk24
        rw [show ((24 : Nat) : Int) = 24 from rfl]
        have cc := R.out.cell
        have HZ := Lib.hid (own_upd R4.out.1 R4.out.2 R.out.upd)
        go_wp2_with fail
        go_ret
        exact ⟨rfl, HZ.out⟩
theorem moves17_walk (c d us hd : Int) (w : World) :
    Calls Try.prog 7 #[.int .i64 c, .int .i64 d, .int .i64 us, .int .i64 hd] w fun e w' => e = .returned (.bool true) ∧ Below w.heap.size w w' := by
  by_cases h : c < 4 ∨ 23 < c ∨ (10 ≤ c ∧ c < 13) ∨ d < -16777216 ∨ 16777216 < d ∨ us < 1000 ∨ 100000 < us
  · exact moves17_noop c d us hd w h
  · obtain ⟨a, rfl⟩ : ∃ a : Nat, c = (a : Int) := ⟨c.toNat, by omega⟩
    exact moves17_yes a d us hd w (by omega) (by omega) (by omega)
end Go.Proofs.Ytanmddenleffaaa
