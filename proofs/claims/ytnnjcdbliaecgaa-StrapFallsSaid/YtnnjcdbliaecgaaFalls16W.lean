/- The walk of StrapFalls. -/
import Derived.Test.YtnnjcdbliaecgaaS01
import Derived.Test.YtnnjcdbliaecgaaUpr6
namespace Go.Proofs.Ytnnjcdbliaecgaa
open Go.RowKit
set_option maxRecDepth 100000
set_option maxHeartbeats 4000000 in
theorem falls16_no (us n : Int) (w : World) (h : us < 1000 ∨ 100000 < us ∨ n < 0 ∨ 40 < n) :
    Calls Try.prog 5 #[.int .i64 us, .int .i64 n] w fun e w' => e = .returned (.bool true) ∧ Below w.heap.size w w' := by
  have cs : decide (us < 1000) = true ∨ (decide (us < 1000) = false ∧ decide (100000 < us) = true) ∨ (decide (us < 1000) = false ∧ decide (100000 < us) = false ∧ decide (n < 0) = true) ∨ (decide (us < 1000) = false ∧ decide (100000 < us) = false ∧ decide (n < 0) = false ∧ decide (40 < n) = true) := by
    by_cases h1 : us < 1000
    · exact .inl (by simpa using h1)
    · by_cases h2 : 100000 < us
      · exact .inr (.inl ⟨by simpa using h1, by simpa using h2⟩)
      · by_cases h3 : n < 0
        · exact .inr (.inr (.inl ⟨by simpa using h1, by simpa using h2, by simpa using h3⟩))
        · exact .inr (.inr (.inr ⟨by simpa using h1, by simpa using h2, by simpa using h3, by simp; omega⟩))
  clear h
  go_enter Try.func5, Try.ntmps5
  go_upto_region 3 with (go_at_call 8; (refine (awake16_any _).mono ?_); rintro e w1 ⟨rfl, hb1⟩)
  rcases cs with d1 | ⟨d1, d2⟩ | ⟨d1, d2, d3⟩ | ⟨d1, d2, d3, d4⟩
  all_goals
    go_wp2_with fail
    go_ret
    exact ⟨rfl, hb1⟩
/-- The flag (never set), the estimate. -/
structure FaR (bc sb : Nat) (S : Nat → Int) (w wr : World) : Prop where
  below : Below w.heap.size w wr
  fl : Flg wr bc false
  s : Blk wr sb 27 24 S
  lt : w.heap.size ≤ bc ∧ bc < sb
theorem FaR.down {bc sb : Nat} {S : Nat → Int} {w wr w' : World} (s : FaR bc sb S w wr) (k : Below wr.heap.size wr w') : FaR bc sb S w w' := ⟨s.below.trans (k.mono s.below.size), s.fl.below k, s.s.below k, s.lt⟩
theorem FaR.upd' {bc sb : Nat} {S : Nat → Int} {w wr w' : World} (s : FaR bc sb S w wr) (u : Upd ⟨bc, 0, none⟩ false wr w') : FaR bc sb S w w' := ⟨below_of_upd s.below u s.lt.1, s.fl.hit u, s.s.upd u (by have := s.lt; simp only; omega), s.lt⟩
theorem FaR.row {bc sb : Nat} {S : Nat → Int} {w wr : World} (s : FaR bc sb S w wr) (F : Nat → Int) : FaR bc sb F w (wr.setRow sb (arrv 24 F)) := by
  have := s.lt
  exact ⟨below_row s.below (by omega) _, s.fl.row _ (by omega), s.s.setRow F, s.lt⟩
theorem fa_start (S : Nat → Int) (w w1 : World) (hb : Below w.heap.size w w1) : FaR w1.heap.size (w1.heap.size + 1) S w (((w1.alloc (.cells #[.bool false] 25)).alloc (.cells #[.int .i64 0, .int .i64 0, .int .i64 0, .int .i64 0, .int .i64 0, .int .i64 0, .int .i64 0, .int .i64 0, .int .i64 0, .int .i64 0, .int .i64 0, .int .i64 0, .int .i64 0, .int .i64 0, .int .i64 0, .int .i64 0, .int .i64 0, .int .i64 0, .int .i64 0, .int .i64 0, .int .i64 0, .int .i64 0, .int .i64 0, .int .i64 0] 27)).setRow (w1.heap.size + 1) (arrv 24 S)) := by
  have b1 : Blk ((w1.alloc (.cells #[.bool false] 25)).alloc (.cells #[.int .i64 0, .int .i64 0, .int .i64 0, .int .i64 0, .int .i64 0, .int .i64 0, .int .i64 0, .int .i64 0, .int .i64 0, .int .i64 0, .int .i64 0, .int .i64 0, .int .i64 0, .int .i64 0, .int .i64 0, .int .i64 0, .int .i64 0, .int .i64 0, .int .i64 0, .int .i64 0, .int .i64 0, .int .i64 0, .int .i64 0, .int .i64 0] 27)) (w1.heap.size + 1) 27 24 (fun _ => 0) := by rw [zvec24]; exact Blk.new1 w1 _ _ 24 _
  have z := hb.size
  exact ⟨below_row ((hb.alloc z _).alloc (by simp; omega) _) (by omega) _, ((Flg.new w1 false).alloc _).row _ (by omega), b1.setRow _, z, by omega⟩
open Go in
theorem run_build_imu1 {o : Oper} {ev : Operand → Value} {w : World} (x : Operand) (ho : o.op = .build 31 #[(1, x)]) {a : Int} (hx : ev x = .int .i64 a) :
    (execOp ev o).run Try.prog w = .ok (.value (.agg (arrv 8 (falI a)))) w := by
  unfold execOp
  simp only [ho, List.map_toArray, List.map_cons, List.map_nil, hx]
  kernel_rfl
theorem fal0 : arrv 24 oneS = arrv 24 (falS 0 0) := arrv_congr (by decide)
set_option maxHeartbeats 32000000 in
theorem falls16_yes (us : Int) (m : Nat) (w : World) (h1 : 1000 ≤ us) (h2 : us ≤ 100000) (hm : m ≤ 40) :
    Calls Try.prog 5 #[.int .i64 us, .int .i64 (m : Int)] w fun e w' => e = .returned (.bool true) ∧ Below w.heap.size w w' := by
  have c1 : decide (us < 1000) = false := by simp; omega
  have c2 : decide (100000 < us) = false := by simp; omega
  have c3 : decide ((m : Int) < 0) = false := by simp
  have c4 : decide (40 < (m : Int)) = false := by simp; omega
  have sb := sec_bd h1 h2
  have TC := fun (c : Addr) (x : World) (k : x.cell? c = some (.bool false)) (f : x.frozen? c = false) => sec_any c false us x k f
  rw [sb.2.2] at TC
  have SC := fun (c : Addr) (v x : Int) (hv : -100000000000 ≤ v ∧ v ≤ 100000000000) (hx : -1000000000000000 ≤ x ∧ x ≤ 1000000000000000) (W : World) (k : W.cell? c = some (.bool false)) (f : W.frozen? c = false) => by
    have h := step_any2 c false (falS v x) (falI us) W k f
    rw [(fall_step h1 h2 hv hx).1, (fall_step h1 h2 hv hx).2, Bool.or_false] at h
    exact h
  obtain ⟨dt, hdt⟩ : ∃ x, secV us = x := ⟨_, rfl⟩
  rw [hdt] at sb TC SC
  have ug := up_g (dt := dt) (by omega) (by omega)
  have ER := fall_err (dt := dt) hm (by omega) (by omega)
  obtain ⟨g, hg⟩ : ∃ x, mulV 10529810258 dt 30 = x := ⟨_, rfl⟩
  obtain ⟨hf, hhf⟩ : ∃ x, mulV dt 536870912 30 = x := ⟨_, rfl⟩
  rw [hg, hhf] at ug ER SC
  have FM := Lib.hid (fun (k : Nat) (hk : k ≤ 40) => And.intro (fa_mul (n := k) hk ⟨ug.2.1, ug.2.2.1⟩ ⟨ug.2.2.2.2.1, ug.2.2.2.2.2⟩) (fa_small ⟨ug.2.1, ug.2.2.1⟩ ⟨ug.2.2.2.2.1, ug.2.2.2.2.2⟩ k hk))
  have SC := Lib.hid SC
  have TC := Lib.hid TC
  have HM := Lib.hid hm
  clear sb hdt ug hg hhf h1 h2
  go_enter Try.func5, Try.ntmps5
  go_upto_region 5 with (go_at_call 8; (refine (awake16_any _).mono ?_); rintro e w1 ⟨rfl, hb1⟩)
  have S1 := Lib.hid (fa_start oneS w w1 hb1)
  clear hb1
  go_upto_region 6 with fail
  refine wp_region_lit ?_
  refine wpList_val (v := ?_) rfl ?_ ?_
  rotate_left
  · (refine Eq.trans (run_build_st1 (.const (.int .i64 1073741824)) (by rfl) (by rfl)) ?_; with_reducible rfl)
  (try simp only [Act.put, nA, nB, nC])
  refine wpList_act (v := ?_) (w' := ?_) rfl ?_ ?_
  rotate_left 2
  · (go_simp; (try (first | with_reducible rfl | (constructor <;> with_reducible rfl))))
  (try simp only [Act.put, nA, nB, nC])
  refine wpList_done (w' := ?_) rfl ?_ ?_
  rotate_left
  · (refine Eq.trans (run_store_row 27 (.tmp 6) (.tmp 29) (by rfl) (w1.heap.size + 1) (by first | (simp; rfl) | rfl) (by rfl) (show Blk ((w1.alloc (.cells #[.bool false] 25)).alloc (.cells #[.int .i64 0, .int .i64 0, .int .i64 0, .int .i64 0, .int .i64 0, .int .i64 0, .int .i64 0, .int .i64 0, .int .i64 0, .int .i64 0, .int .i64 0, .int .i64 0, .int .i64 0, .int .i64 0, .int .i64 0, .int .i64 0, .int .i64 0, .int .i64 0, .int .i64 0, .int .i64 0, .int .i64 0, .int .i64 0, .int .i64 0, .int .i64 0] 27)) (w1.heap.size + 1) 27 24 (fun _ => 0) by rw [zvec24]; exact Blk.new1 w1 _ _ 24 _) (ist.trans rfl)) ?_; with_reducible rfl)
  (try simp only [Act.put, nA, nB, nC])
  refine wpList_nil ?_
  rw [show (fun i => if i = 0 then (1073741824 : Int) else 0) = oneS from rfl]
  generalize ((w1.alloc (.cells #[.bool false] 25)).alloc (.cells #[.int .i64 0, .int .i64 0, .int .i64 0, .int .i64 0, .int .i64 0, .int .i64 0, .int .i64 0, .int .i64 0, .int .i64 0, .int .i64 0, .int .i64 0, .int .i64 0, .int .i64 0, .int .i64 0, .int .i64 0, .int .i64 0, .int .i64 0, .int .i64 0, .int .i64 0, .int .i64 0, .int .i64 0, .int .i64 0, .int .i64 0, .int .i64 0] 27)).setRow (w1.heap.size + 1) (arrv 24 oneS) = W1 at *
  obtain ⟨bc, hbc⟩ : ∃ x, w1.heap.size = x := ⟨_, rfl⟩
  obtain ⟨eb, heb⟩ : ∃ x, w1.heap.size + 1 = x := ⟨_, rfl⟩
  rw [heb] at S1 ⊢
  rw [hbc] at S1 ⊢
  clear hbc heb
  have S2 : Hid (FaR bc eb (falS 0 0) w W1) := Lib.hid ⟨S1.out.below, S1.out.fl, by have h := S1.out.s; unfold Blk at h ⊢; rw [← fal0]; exact h, S1.out.lt⟩
  clear S1
  go_wp2_with fail
  go_loopw [7] (fun i wr => ∃ k : Nat, k ≤ m ∧ i = .int .i64 k ∧ Hid (FaR bc eb (falS ((k : Int) * g) (faX g hf k)) w wr)) (fun i _ => m - (intOf i).toNat)
  case atStart => exact ⟨0, by omega, rfl, by rw [show ((0 : Nat) : Int) * g = 0 by simp]; exact S2⟩
  case round =>
    obtain ⟨k, hk, rfl, R⟩ := hrel
    clear S2
    by_cases hlt : k < m
    · have d1 : decide (k < m) = true := by simpa using hlt
      have d2 : decide ((k : Int) < (m : Int)) = true := by simp; omega
      have hk40 : k ≤ 40 := by have := HM.out; omega
      have k0 : (0 : Int) ≤ (k : Int) := Int.natCast_nonneg _
      have fm := FM.out k hk40
      have CC := fun (W : World) (a : W.cell? ⟨bc, 0, none⟩ = some (.bool false)) (f : W.frozen? ⟨bc, 0, none⟩ = false) => SC.out ⟨bc, 0, none⟩ ((k : Int) * g) (faX g hf k) ⟨fm.1.1, fm.1.2.1⟩ (by have := fm.2; omega) W a f
      rw [show (k : Int) * g + g = ((k + 1 : Nat) : Int) * g by rw [Int.natCast_add, Int.add_mul]; simp, show faX g hf k + mulV ((k : Int) * g + ((k + 1 : Nat) : Int) * g) hf 30 = faX g hf (k + 1) by
        simp only [faX]; rw [show ((k + 1 : Nat) : Int) * g = (k : Int) * g + g by rw [Int.natCast_add, Int.add_mul]; simp]] at CC
      obtain ⟨SS, hSS⟩ : ∃ x, falS ((k : Int) * g) (faX g hf k) = x := ⟨_, rfl⟩
      obtain ⟨TT, hTT⟩ : ∃ x, falS (((k + 1 : Nat) : Int) * g) (faX g hf (k + 1)) = x := ⟨_, rfl⟩
      rw [hSS, hTT] at CC
      rw [hSS] at R
      have CC := Lib.hid CC
      have HT := Lib.hid hTT
      clear hSS hTT fm
      have P0 := R.out.s
      go_upto_region 10 with fail
      refine wp_region_lit ?_
      refine wpList_val (v := ?_) rfl ?_ ?_
      rotate_left
      · (go_simp; (try (first | with_reducible rfl | (constructor <;> with_reducible rfl))))
      (try simp only [Act.put, nA, nB, nC])
      refine wpList_val (v := ?_) rfl ?_ ?_
      rotate_left
      · refine Eq.trans (run_load_row 27 (.tmp 6) (by rfl) (eb) (by rfl) _ _ _ _ (P0) Try.underlying27 rfl (ist.trans (by rw [arrv_size]))) ?_; with_reducible rfl
      (try simp only [Act.put, nA, nB, nC])
      refine wpList_val (v := ?_) rfl ?_ ?_
      rotate_left
      · (go_simp; (try (first | with_reducible rfl | (constructor <;> with_reducible rfl))))
      (try simp only [Act.put, nA, nB, nC])
      refine wpList_val (v := ?_) rfl ?_ ?_
      rotate_left
      · (refine Eq.trans (run_build_imu1 (.tmp 37) (by rfl) (by rfl)) ?_; with_reducible rfl)
      (try simp only [Act.put, nA, nB, nC])
      refine wpList_step (fun K hK => ?_)
      go_simp
      (refine (CC.out _ R.out.fl.cell R.out.fl.free).mono ?_); rintro e w3 ⟨rfl, hu⟩; have R1 := Lib.hid (R.out.upd' hu); clear hu R P0 CC; have P1 := R1.out.s
      (try dsimp only)
      (try simp only [Act.put, nA, nB, nC])
      refine hK _ _ ?_
      clear hK K
      refine wpList_done (w' := ?_) rfl ?_ ?_
      rotate_left
      · refine Eq.trans (run_store_row 27 (.tmp 6) (.tmp 39) (by rfl) (eb) (by rfl) (by rfl) (P1) (ist.trans rfl)) ?_; with_reducible rfl
      (try simp only [Act.put, nA, nB, nC])
      refine wpList_nil ?_
      have R2 := Lib.hid (R1.out.row TT)
      generalize w3.setRow eb (arrv 24 TT) = W3 at *
      clear P1 R1
      go_wp2_with fail
      go_roundw
      case rel => exact ⟨k + 1, by omega, by go_num, by rw [HT.out]; exact R2⟩
      case measure => simp [intOf]; omega
    · have hkm : k = m := by omega
      subst hkm
      have d1 : decide (k < k) = false := by simp
      have d2 : decide ((k : Int) < (k : Int)) = false := by simp
      have V6 : ∀ v x, falS v x 6 = v ∧ falS v x 9 = x ∧ falS v x 4 = 0 ∧ falS v x 8 = 0 := fun v x => ⟨rfl, rfl, rfl, rfl⟩
      have fm := FM.out k HM.out
      obtain ⟨V, hV⟩ : ∃ V, (k : Int) * g = V := ⟨_, rfl⟩
      obtain ⟨X, hX⟩ : ∃ X, faX g hf k = X := ⟨_, rfl⟩
      rw [hV, hX] at R ER
      have fmV := fm.1.1
      have fmV2 := fm.1.2.1
      have fmX := fm.2
      rw [hV] at fmV fmV2
      rw [hX] at fmX
      obtain ⟨r1, r2, r3, r4, r5, r6, r7, r8⟩ := ER
      obtain ⟨t, ht⟩ : ∃ t, dt * (k : Int) = t := ⟨_, rfl⟩
      rw [ht] at r1 r3 r4 r5 r6 r7 r8
      have MB := fun (a b : Int) (x : World) (k : x.cell? ⟨bc, 0, none⟩ = some (.bool false)) (f : x.frozen? ⟨bc, 0, none⟩ = false) => fmul_any ⟨bc, 0, none⟩ false a b 30 x k f
      have M1 := MB 10529810258 t
      have MT := fun (x : World) (p : x.cell? ⟨bc, 0, none⟩ = some (.bool false)) (f : x.frozen? ⟨bc, 0, none⟩ = false) => fmul_any ⟨bc, 0, none⟩ false dt (k : Int) 0 x p f
      rw [r1, r2, Bool.or_false] at MT
      rw [r3, Bool.or_false] at M1
      obtain ⟨m1, hm1⟩ : ∃ x, mulV 10529810258 t 30 = x := ⟨_, rfl⟩
      rw [hm1] at M1 r4 r5 r6 r7 r8
      have M2 := MB m1 t
      rw [r4, Bool.or_false] at M2
      obtain ⟨m2, hm2⟩ : ∃ x, mulV m1 t 30 = x := ⟨_, rfl⟩
      rw [hm2] at M2 r6 r7
      obtain ⟨q, hq⟩ : ∃ q, m2.tdiv 2 = q := ⟨_, rfl⟩
      rw [hq] at r6
      have qb : 0 ≤ q ∧ q ≤ 1000000000000 := by rw [← hq, Int.tdiv_eq_ediv_of_nonneg r7.1]; omega
      have e1 : IntKind.i64.wrap (V - m1) = V - m1 := IntWalk.i64_in _ (by omega)
      have e2 : IntKind.i64.wrap (m2.tdiv 2) = q := by rw [hq]; exact IntWalk.i64_in _ (by omega)
      have e3 : IntKind.i64.wrap (X - q) = X - q := IntWalk.i64_in _ (by omega)
      obtain ⟨vv, hvv⟩ : ∃ x, V - m1 = x := ⟨_, rfl⟩
      obtain ⟨xx, hxx⟩ : ∃ x, X - q = x := ⟨_, rfl⟩
      rw [hvv] at r5
      rw [hxx] at r6
      have f1 : decide (vv ≤ 16384) = true := by simp; omega
      have f2 : decide (-16384 ≤ vv) = true := by simp; omega
      have f3 : decide (xx ≤ 262144) = true := by simp; omega
      have f4 : decide (-262144 ≤ xx) = true := by simp; omega
      have HVV := Lib.hid (And.intro hvv (And.intro hxx hq))
      have MT := Lib.hid MT
      have M1 := Lib.hid M1
      have M2 := Lib.hid M2
      have c6 := R.out.s.cell (i := 6) (by decide)
      rw [(V6 V X).1] at c6
      clear fm fmV fmV2 fmX r1 r2 r3 r4 r5 r6 r7 r8 qb MB hV hX ht hm1 hm2 hvv hxx hq
      go_upto_region 12 with (first | (go_at_call 14; (refine (TC.out ⟨bc, 0, none⟩ _ R.out.fl.cell R.out.fl.free).mono ?_); rintro e w3 ⟨rfl, hu⟩; have R1 := Lib.hid (R.out.upd' hu); clear hu R) | (go_at_call 13; (refine (MT.out _ R1.out.fl.cell R1.out.fl.free).mono ?_); rintro e w4 ⟨rfl, hu⟩; have R2 := Lib.hid (R1.out.upd' hu); clear hu R1))
      clear c6
      have HS := Lib.hid (R2.out.down (Below.drew (Below.refl _ _)))
      clear R2
      refine wp_region_M (fun w' => w'.cell? ⟨eb, 6, none⟩ = some (.int .i64 V)) 6 (by kernel_rfl) ?_ (fun hHeld => ?_)
      · exact HS.out.s.cell (i := 6) (by decide)
      refine wpAnyM_take 0 (v := ?_) rfl (by kernel_rfl) (fun _ _ _ h => h) (Or.inl ⟨by rfl, ?_⟩) (by assumption) ?_
      rotate_left
      · (intro wx hSw; (try dsimp only at hSw); go_simp; (try with_reducible rfl))
      (try simp only [Act.put, nA, nB, nC])
      refine wpAnyM_take 1 (v := ?_) rfl (by kernel_rfl) (fun _ _ _ h => h) (Or.inl ⟨by rfl, ?_⟩) (by assumption) ?_
      rotate_left
      · (intro wx hSw; (try dsimp only at hSw); go_simp; (try with_reducible rfl))
      (try simp only [Act.put, nA, nB, nC])
      refine wpAnyM_take 2 (v := ?_) rfl (by kernel_rfl) (fun _ _ _ h => h) (Or.inl ⟨by rfl, ?_⟩) (by assumption) ?_
      rotate_left
      · (intro wx hSw; (try dsimp only at hSw); go_simp; (try with_reducible rfl))
      (try simp only [Act.put, nA, nB, nC])
      refine wpAnyM_take 3 (v := ?_) rfl (by kernel_rfl) (fun _ _ _ h => h) (Or.inl ⟨by rfl, ?_⟩) (by assumption) ?_
      rotate_left
      · (intro wx hSw; (try dsimp only at hSw); go_simp; (try with_reducible rfl))
      (try simp only [Act.put, nA, nB, nC])
      refine wpAnyM_oneS 4 rfl (by kernel_rfl) (fun K hK => ?_)
      go_simp
      (refine (M1.out _ HS.out.fl.cell HS.out.fl.free).mono ?_); rintro e w5 ⟨rfl, hu⟩; have HT := Lib.hid (HS.out.upd' hu); clear HS hu; have HS := HT; clear HT
      (try dsimp only)
      (try simp only [Act.put, nA, nB, nC])
      clear hHeld
      refine hK.out _ _ ?_ (fun hHeld => ?_)
      · exact HS.out.s.cell (i := 6) (by decide)
      clear hK K
      (try simp only [Act.put, nA, nB, nC])
      refine wpAnyM_take 5 (v := ?_) rfl (by kernel_rfl) (fun _ _ _ h => h) (Or.inl ⟨by rfl, ?_⟩) (by assumption) ?_
      rotate_left
      · (intro wx hSw; (try dsimp only at hSw); go_simp; (try rw [e1]); (try rw [HVV.out.1]); (try with_reducible rfl))
      (try simp only [Act.put, nA, nB, nC])
      refine wpAnyM_one 6 rfl (by kernel_rfl) (fun K hK => ?_)
      go_simp
      refine hK.out _ _ (.inl (by kernel_rfl)) (fun _ => ?_)
      clear hK K
      (try simp only [Act.put, nA, nB, nC])
      refine wpAnyM_done (by kernel_rfl) ?_ _
      go_upto_region 13 with fail
      have HT := Lib.hid (HS.out.down (Below.drew (Below.refl _ _)))
      clear HS
      have HS := HT
      clear HT
      refine wp_region_M (fun w' => w'.cell? ⟨eb, 9, none⟩ = some (.int .i64 X)) 10 (by kernel_rfl) ?_ (fun hHeld => ?_)
      · exact HS.out.s.cell (i := 9) (by decide)
      refine wpAnyM_take 0 (v := ?_) rfl (by kernel_rfl) (fun _ _ _ h => h) (Or.inl ⟨by rfl, ?_⟩) (by assumption) ?_
      rotate_left
      · (intro wx hSw; (try dsimp only at hSw); go_simp; (try with_reducible rfl))
      (try simp only [Act.put, nA, nB, nC])
      refine wpAnyM_take 1 (v := ?_) rfl (by kernel_rfl) (fun _ _ _ h => h) (Or.inl ⟨by rfl, ?_⟩) (by assumption) ?_
      rotate_left
      · (intro wx hSw; (try dsimp only at hSw); go_simp; (try with_reducible rfl))
      (try simp only [Act.put, nA, nB, nC])
      refine wpAnyM_take 2 (v := ?_) rfl (by kernel_rfl) (fun _ _ _ h => h) (Or.inl ⟨by rfl, ?_⟩) (by assumption) ?_
      rotate_left
      · (intro wx hSw; (try dsimp only at hSw); go_simp; (try with_reducible rfl))
      (try simp only [Act.put, nA, nB, nC])
      refine wpAnyM_take 3 (v := ?_) rfl (by kernel_rfl) (fun _ _ _ h => h) (Or.inl ⟨by rfl, ?_⟩) (by assumption) ?_
      rotate_left
      · (intro wx hSw; (try dsimp only at hSw); go_simp; (try with_reducible rfl))
      (try simp only [Act.put, nA, nB, nC])
      refine wpAnyM_take 4 (v := ?_) rfl (by kernel_rfl) (fun _ _ _ h => h) (Or.inl ⟨by rfl, ?_⟩) (by assumption) ?_
      rotate_left
      · (intro wx hSw; (try dsimp only at hSw); go_simp; (try with_reducible rfl))
      (try simp only [Act.put, nA, nB, nC])
      refine wpAnyM_take 6 (v := ?_) rfl (by kernel_rfl) (fun _ _ _ h => h) (Or.inl ⟨by rfl, ?_⟩) (by assumption) ?_
      rotate_left
      · (intro wx hSw; (try dsimp only at hSw); go_simp; (try with_reducible rfl))
      (try simp only [Act.put, nA, nB, nC])
      refine wpAnyM_oneS 5 rfl (by kernel_rfl) (fun K hK => ?_)
      go_simp
      (refine (M1.out _ HS.out.fl.cell HS.out.fl.free).mono ?_); rintro e w6 ⟨rfl, hu⟩; have HT := Lib.hid (HS.out.upd' hu); clear HS hu; have HS := HT; clear HT
      (try dsimp only)
      (try simp only [Act.put, nA, nB, nC])
      clear hHeld
      refine hK.out _ _ ?_ (fun hHeld => ?_)
      · exact HS.out.s.cell (i := 9) (by decide)
      clear hK K
      (try simp only [Act.put, nA, nB, nC])
      refine wpAnyM_oneS 7 rfl (by kernel_rfl) (fun K hK => ?_)
      go_simp
      (refine (M2.out _ HS.out.fl.cell HS.out.fl.free).mono ?_); rintro e w7 ⟨rfl, hu⟩; have HT := Lib.hid (HS.out.upd' hu); clear HS hu; have HS := HT; clear HT
      (try dsimp only)
      (try simp only [Act.put, nA, nB, nC])
      clear hHeld
      refine hK.out _ _ ?_ (fun hHeld => ?_)
      · exact HS.out.s.cell (i := 9) (by decide)
      clear hK K
      (try simp only [Act.put, nA, nB, nC])
      refine wpAnyM_take 8 (v := ?_) rfl (by kernel_rfl) (fun _ _ _ h => h) (Or.inl ⟨by rfl, ?_⟩) (by assumption) ?_
      rotate_left
      · (intro wx hSw; (try dsimp only at hSw); go_simp; (try rw [e2]); (try with_reducible rfl))
      (try simp only [Act.put, nA, nB, nC])
      refine wpAnyM_take 9 (v := ?_) rfl (by kernel_rfl) (fun _ _ _ h => h) (Or.inl ⟨by rfl, ?_⟩) (by assumption) ?_
      rotate_left
      · (intro wx hSw; (try dsimp only at hSw); go_simp; (try rw [e3]); (try rw [HVV.out.2.1]); (try with_reducible rfl))
      (try simp only [Act.put, nA, nB, nC])
      refine wpAnyM_one 10 rfl (by kernel_rfl) (fun K hK => ?_)
      go_simp
      refine hK.out _ _ (.inl (by kernel_rfl)) (fun _ => ?_)
      clear hK K
      (try simp only [Act.put, nA, nB, nC])
      refine wpAnyM_done (by kernel_rfl) ?_ _
      have c4' := HS.out.s.cell (i := 4) (by decide)
      have c8' := HS.out.s.cell (i := 8) (by decide)
      rw [(V6 V X).2.2.1] at c4'
      rw [(V6 V X).2.2.2] at c8'
      have fc := HS.out.fl.cell
      go_upto_region 14 with fail
      go_wp2_with fail
      go_ret
      exact ⟨rfl, HS.out.below⟩
theorem falls16_walk (us n : Int) (w : World) :
    Calls Try.prog 5 #[.int .i64 us, .int .i64 n] w fun e w' => e = .returned (.bool true) ∧ Below w.heap.size w w' := by
  by_cases h : us < 1000 ∨ 100000 < us ∨ n < 0 ∨ 40 < n
  · exact falls16_no us n w h
  · obtain ⟨m, rfl⟩ : ∃ m : Nat, n = (m : Int) := ⟨n.toNat, by omega⟩
    exact falls16_yes us m w (by omega) (by omega) (by omega)
end Go.Proofs.Ytnnjcdbliaecgaa
