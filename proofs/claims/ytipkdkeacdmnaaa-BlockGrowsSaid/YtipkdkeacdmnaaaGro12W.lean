/- The walk of the law BlockGrows. -/
import Derived.Test.YtipkdkeacdmnaaaQ11
namespace Go.Proofs.Ytipkdkeacdmnaaa
open Go.RowKit
set_option maxRecDepth 100000
/-- The law's world up to the flag: the factors at w's end, the slice. -/
structure GrA (P : Nat → Int) (p : Option Addr) (n : Nat) (L : Nat → Int) (w wr : World) : Prop where
  below : Below w.heap.size w wr
  pB : Blk wr w.heap.size 25 300 P
  sl : Slc wr p n L
section
variable {bc ab' xb yb : Nat} {P A X Y : Nat → Int} {p : Option Addr} {n : Nat} {L : Nat → Int} {w wr w' : World}
theorem GrA.down (s : GrA P p n L w wr) (u : Below wr.heap.size wr w') : GrA P p n L w w' := ⟨s.below.trans (u.mono s.below.size), s.pB.below u, s.sl.below u⟩
theorem GrA.row (s : GrA P p n L w wr) (hL : Slc w p n L) (F : Nat → Int) : GrA F p n L w (wr.setRow w.heap.size (arrv 300 F)) := by
  have b := below_row s.below (Nat.le_refl w.heap.size) (arrv 300 F)
  exact ⟨b, s.pB.setRow F, hL.below b⟩
theorem GrA.upd' (s : GrA P p n L w wr) (hL : Slc w p n L) (hb : w.heap.size < bc) (u : Upd ⟨bc, 0, none⟩ false wr w') : GrA P p n L w w' := by
  have b := own_upd s.below (by simp only; omega) u
  exact ⟨b, s.pB.upd u (by simp only; omega), hL.below b⟩
/-- .. with the flag and one more row. -/
structure GrB (bc b : Nat) (T m : Nat) (P A : Nat → Int) (p : Option Addr) (n : Nat) (L : Nat → Int) (w wr : World) : Prop where
  g : GrA P p n L w wr
  fl : Flg wr bc false
  a : Blk wr b T m A
  lt : w.heap.size < bc ∧ bc < b
variable {b T m : Nat}
theorem GrB.down (s : GrB bc b T m P A p n L w wr) (u : Below wr.heap.size wr w') : GrB bc b T m P A p n L w w' := ⟨s.g.down u, s.fl.below u, s.a.below u, s.lt⟩
theorem GrB.upd' (s : GrB bc b T m P A p n L w wr) (hL : Slc w p n L) (u : Upd ⟨bc, 0, none⟩ false wr w') : GrB bc b T m P A p n L w w' := by
  have := s.lt
  exact ⟨s.g.upd' hL this.1 u, s.fl.hit u, s.a.upd u (by simp only; omega), s.lt⟩
end
theorem grow_noop (P : Nat → Int) (fr : Int) (p : Option Addr) (n cp : Nat) (w : World) (h : fr < 0 ∨ 23 < fr ∨ 24 - fr < (n : Int)) (hfr : -9223372036854775808 ≤ fr ∧ fr ≤ 9223372036854775807) :
    Calls Try.prog 6 #[.agg (arrv 300 P), .int .i64 fr, .slice p n cp] w fun e w' => e = .returned (.bool true) ∧ Below w.heap.size w w' := by
  have S0 := Lib.hid (show Below w.heap.size w (w.alloc (.cells (arrv 300 P) 25)) by (repeat (first | with_reducible exact Below.refl _ _ | with_reducible apply Below.drew | (with_reducible refine below_drewN ?_ _) | (with_reducible refine Below.alloc ?_ (by (try simp) <;> omega) _) | (with_reducible refine Below.setCell ?_ (by (try simp) <;> omega) _))))
  have hc : decide (fr < 0) = true ∨ (decide (fr < 0) = false ∧ decide (23 < fr) = true) ∨ (decide (fr < 0) = false ∧ decide (23 < fr) = false ∧ decide (24 - fr < (n : Int)) = true ∧ IntKind.i64.wrap (24 - fr) = 24 - fr) := by
    by_cases h1 : fr < 0
    · exact .inl (by simpa using h1)
    · by_cases h2 : 23 < fr
      · exact .inr (.inl ⟨by simp; omega, by simpa using h2⟩)
      · exact .inr (.inr ⟨by simp; omega, by simp; omega, by simp; omega, IntWalk.i64_in _ (by omega)⟩)
  clear h
  rcases hc with d1 | ⟨d1, d2⟩ | ⟨d1, d2, d3, w1'⟩
  all_goals
    go_enter Try.func6, Try.ntmps6
    go_upto_region 1 with fail
    generalize w.alloc (.cells (arrv 300 P) 25) = W0 at *
    go_upto_region 3 with (go_at_call 14; (refine (awake12_any _).mono ?_); rintro e w1 ⟨rfl, hb1⟩; have S1 := Lib.hid (Below.after S0.out hb1); clear hb1)
    refine wp_region_lit ?_
    refine wpList_val (v := ?_) rfl ?_ ?_
    rotate_left
    · (go_simp; (try (first | with_reducible rfl | (constructor <;> with_reducible rfl))))
    (try simp only [Act.put, nA, nB, nC])
    refine wpList_val (v := ?_) rfl ?_ ?_
    rotate_left
    · (go_simp; (try simp only [d1]); (try with_reducible rfl))
    (try simp only [Act.put, nA, nB, nC])
    refine wpList_val (v := ?_) rfl ?_ ?_
    rotate_left
    · (go_simp; (try (first | with_reducible rfl | (constructor <;> with_reducible rfl))))
    (try simp only [Act.put, nA, nB, nC])
    first | (refine wpList_val (v := ?_) (by rfl) ?_ ?_; rotate_left; focus ((go_simp; (try (first | with_reducible rfl | (constructor <;> with_reducible rfl)))))) | refine wpList_skip (by rfl) ?_
    (try simp only [Act.put, nA, nB, nC])
    first | (refine wpList_val (v := ?_) (by rfl) ?_ ?_; rotate_left; focus ((go_simp; (try simp only [d2]); (try with_reducible rfl)))) | refine wpList_skip (by rfl) ?_
    (try simp only [Act.put, nA, nB, nC])
    refine wpList_val (v := ?_) rfl ?_ ?_
    rotate_left
    · (go_simp; (try (first | with_reducible rfl | (constructor <;> with_reducible rfl))))
    (try simp only [Act.put, nA, nB, nC])
    refine wpList_val (v := ?_) rfl ?_ ?_
    rotate_left
    · (go_simp; (try (first | with_reducible rfl | (constructor <;> with_reducible rfl))))
    (try simp only [Act.put, nA, nB, nC])
    first | (refine wpList_val (v := ?_) (by rfl) ?_ ?_; rotate_left; focus ((go_simp; (try (first | with_reducible rfl | (constructor <;> with_reducible rfl)))))) | refine wpList_skip (by rfl) ?_
    (try simp only [Act.put, nA, nB, nC])
    first | (refine wpList_val (v := ?_) (by rfl) ?_ ?_; rotate_left; focus ((go_simp; (try (first | with_reducible rfl | (constructor <;> with_reducible rfl)))))) | refine wpList_skip (by rfl) ?_
    (try simp only [Act.put, nA, nB, nC])
    first | (refine wpList_val (v := ?_) (by rfl) ?_ ?_; rotate_left; focus ((go_simp; (try (first | with_reducible rfl | (constructor <;> with_reducible rfl)))))) | refine wpList_skip (by rfl) ?_
    (try simp only [Act.put, nA, nB, nC])
    first | (refine wpList_val (v := ?_) (by rfl) ?_ ?_; rotate_left; focus ((go_simp; (try rw [w1']); (try with_reducible rfl)))) | refine wpList_skip (by rfl) ?_
    (try simp only [Act.put, nA, nB, nC])
    first | (refine wpList_val (v := ?_) (by rfl) ?_ ?_; rotate_left; focus ((go_simp; (try simp only [d3]); (try with_reducible rfl)))) | refine wpList_skip (by rfl) ?_
    (try simp only [Act.put, nA, nB, nC])
    refine wpList_val (v := ?_) rfl ?_ ?_
    rotate_left
    · (go_simp; (try (first | with_reducible rfl | (constructor <;> with_reducible rfl))))
    (try simp only [Act.put, nA, nB, nC])
    refine wpList_nil ?_
    go_wp2_with fail
    go_ret
    exact ⟨rfl, S1.out⟩
set_option maxHeartbeats 20000000 in
theorem grow_yes (P0 : Nat → Int) (fr : Nat) (p : Option Addr) (n cp : Nat) (L : Nat → Int) (w : World) (hL : Slc w p n L) (hn : fr + n ≤ 24) (hf23 : fr ≤ 23) (hb : ∀ i, i < n → -9223372036854775808 ≤ L i ∧ L i ≤ 9223372036854775807) :
    Calls Try.prog 6 #[.agg (arrv 300 P0), .int .i64 (fr : Int), .slice p n cp] w fun e w' => e = .returned (.bool true) ∧ Below w.heap.size w w' := by
  have S0 := Lib.hid (show GrA P0 p n L w (w.alloc (.cells (arrv 300 P0) 25)) from ⟨by (repeat (first | with_reducible exact Below.refl _ _ | with_reducible apply Below.drew | (with_reducible refine below_drewN ?_ _) | (with_reducible refine Below.alloc ?_ (by (try simp) <;> omega) _) | (with_reducible refine Below.setCell ?_ (by (try simp) <;> omega) _))), Blk.new w _ _ _, hL.below (by (repeat (first | with_reducible exact Below.refl _ _ | with_reducible apply Below.drew | (with_reducible refine below_drewN ?_ _) | (with_reducible refine Below.alloc ?_ (by (try simp) <;> omega) _) | (with_reducible refine Below.setCell ?_ (by (try simp) <;> omega) _))))⟩)
  have HL := Lib.hid hL
  have HB := Lib.hid hb
  clear hL hb
  have d1 : decide ((fr : Int) < 0) = false := by simp
  have d2 : decide ((23 : Int) < (fr : Int)) = false := by simp; omega
  have d3 : decide ((24 : Int) - (fr : Int) < (n : Int)) = false := by simp; omega
  have w1' : IntKind.i64.wrap ((24 : Int) - (fr : Int)) = (24 : Int) - (fr : Int) := IntWalk.i64_in _ (by omega)
  go_enter Try.func6, Try.ntmps6
  go_upto_region 1 with fail
  generalize w.alloc (.cells (arrv 300 P0) 25) = W0 at *
  go_upto_region 3 with (go_at_call 14; (refine (awake12_any _).mono ?_); rintro e w1 ⟨rfl, hb1⟩; have S1 := Lib.hid (S0.out.down hb1); clear hb1)
  clear S0
  refine wp_region_lit ?_
  refine wpList_val (v := ?_) rfl ?_ ?_
  rotate_left
  · (go_simp; (try (first | with_reducible rfl | (constructor <;> with_reducible rfl))))
  (try simp only [Act.put, nA, nB, nC])
  refine wpList_val (v := ?_) rfl ?_ ?_
  rotate_left
  · (go_simp; (try simp only [d1]); (try with_reducible rfl))
  (try simp only [Act.put, nA, nB, nC])
  refine wpList_val (v := ?_) rfl ?_ ?_
  rotate_left
  · (go_simp; (try (first | with_reducible rfl | (constructor <;> with_reducible rfl))))
  (try simp only [Act.put, nA, nB, nC])
  first | (refine wpList_val (v := ?_) (by rfl) ?_ ?_; rotate_left; focus ((go_simp; (try (first | with_reducible rfl | (constructor <;> with_reducible rfl)))))) | refine wpList_skip (by rfl) ?_
  (try simp only [Act.put, nA, nB, nC])
  first | (refine wpList_val (v := ?_) (by rfl) ?_ ?_; rotate_left; focus ((go_simp; (try simp only [d2]); (try with_reducible rfl)))) | refine wpList_skip (by rfl) ?_
  (try simp only [Act.put, nA, nB, nC])
  refine wpList_val (v := ?_) rfl ?_ ?_
  rotate_left
  · (go_simp; (try (first | with_reducible rfl | (constructor <;> with_reducible rfl))))
  (try simp only [Act.put, nA, nB, nC])
  refine wpList_val (v := ?_) rfl ?_ ?_
  rotate_left
  · (go_simp; (try (first | with_reducible rfl | (constructor <;> with_reducible rfl))))
  (try simp only [Act.put, nA, nB, nC])
  first | (refine wpList_val (v := ?_) (by rfl) ?_ ?_; rotate_left; focus ((go_simp; (try (first | with_reducible rfl | (constructor <;> with_reducible rfl)))))) | refine wpList_skip (by rfl) ?_
  (try simp only [Act.put, nA, nB, nC])
  first | (refine wpList_val (v := ?_) (by rfl) ?_ ?_; rotate_left; focus ((go_simp; (try (first | with_reducible rfl | (constructor <;> with_reducible rfl)))))) | refine wpList_skip (by rfl) ?_
  (try simp only [Act.put, nA, nB, nC])
  first | (refine wpList_val (v := ?_) (by rfl) ?_ ?_; rotate_left; focus ((go_simp; (try (first | with_reducible rfl | (constructor <;> with_reducible rfl)))))) | refine wpList_skip (by rfl) ?_
  (try simp only [Act.put, nA, nB, nC])
  first | (refine wpList_val (v := ?_) (by rfl) ?_ ?_; rotate_left; focus ((go_simp; (try rw [w1']); (try with_reducible rfl)))) | refine wpList_skip (by rfl) ?_
  (try simp only [Act.put, nA, nB, nC])
  first | (refine wpList_val (v := ?_) (by rfl) ?_ ?_; rotate_left; focus ((go_simp; (try simp only [d3]); (try with_reducible rfl)))) | refine wpList_skip (by rfl) ?_
  (try simp only [Act.put, nA, nB, nC])
  refine wpList_val (v := ?_) rfl ?_ ?_
  rotate_left
  · (go_simp; (try (first | with_reducible rfl | (constructor <;> with_reducible rfl))))
  (try simp only [Act.put, nA, nB, nC])
  refine wpList_nil ?_
  clear d1 d2 d3 w1'
  have P1 := S1.out.pB
  have TT0 := gwT (P0 := P0) (fr := fr) (n := n) (L := L) hn
  obtain ⟨P, hP⟩ : ∃ x, clD P0 24 = x := ⟨_, rfl⟩
  have PC := Lib.hid (plain12_any P0)
  rw [hP] at PC TT0
  go_upto_region 5 with fail
  refine wp_region_lit ?_
  refine wpList_val (v := ?_) rfl ?_ ?_
  rotate_left
  · refine Eq.trans (run_load_row 25 (.tmp 3) (by rfl) (w.heap.size) (by rfl) _ _ _ _ (P1) Try.underlying25 rfl (icov.trans (by rw [arrv_size]))) ?_; with_reducible rfl
  (try simp only [Act.put, nA, nB, nC])
  refine wpList_step (fun K hK => ?_)
  go_simp
  (refine (PC.out _).mono ?_); rintro e w2 ⟨rfl, hb2⟩; have S2 := Lib.hid (S1.out.down hb2); clear hb2; have P2 := S2.out.pB
  (try dsimp only)
  (try simp only [Act.put, nA, nB, nC])
  refine hK _ _ ?_
  clear hK K
  refine wpList_done (w' := ?_) rfl ?_ ?_
  rotate_left
  · refine Eq.trans (run_store_row 25 (.tmp 3) (.tmp 30) (by rfl) (w.heap.size) (by rfl) (by rfl) (P2) (icov.trans rfl)) ?_; with_reducible rfl
  (try simp only [Act.put, nA, nB, nC])
  refine wpList_nil ?_
  have S3 := Lib.hid (S2.out.row HL.out P)
  generalize w2.setRow w.heap.size (arrv 300 P) = W3 at *
  clear S1 S2 P1 P2 PC hP
  go_upto_region 7 with fail
  obtain ⟨bc, hbc⟩ : ∃ x, W3.heap.size = x := ⟨_, rfl⟩
  have K4 := Lib.hid (Flg.new W3 false)
  have b4 : Below W3.heap.size W3 (W3.alloc (.cells #[.bool false] 32)) := (Below.refl _ _).alloc (Nat.le_refl _) _
  have R4 := Lib.hid (S3.out.down b4)
  have hl4 : w.heap.size < bc := by rw [← hbc]; exact S3.out.pB.lt
  rw [hbc] at K4 ⊢
  generalize W3.alloc (.cells #[.bool false] 32) = W4 at *
  clear S3 hbc b4
  have G4 := Lib.hid (show GrA P p n L w W4 ∧ Flg W4 bc false ∧ w.heap.size < bc from ⟨R4.out, K4.out, hl4⟩)
  clear R4 K4 hl4
  go_wp2_with fail
  go_loopw [8] (fun v wr => ∃ k : Nat, k ≤ n ∧ v = .int .i64 k ∧ Hid ((GrA P p n L w wr ∧ Flg wr bc false ∧ w.heap.size < bc) ∧ ∀ i, i < k → 0 ≤ L i ∧ L i ≤ 17592186044416)) (fun v _ => n - (intOf v).toNat)
  case atStart => exact ⟨0, by omega, rfl, G4.out, fun i hi => by omega⟩
  case round =>
    obtain ⟨k, hk, rfl, R⟩ := hrel
    clear G4
    by_cases hkn : k < n
    · have d1 : decide ((k : Int) < (n : Int)) = true := by simp; omega
      obtain ⟨pb, po, rfl, hcell⟩ := R.out.1.1.sl k hkn
      have hbk := HB.out k hkn
      have HR := Lib.hid R.out.2
      obtain ⟨x, hx⟩ : ∃ x, L k = x := ⟨_, rfl⟩
      rw [hx] at hcell hbk
      by_cases h1 : x < 0
      · have e1 : decide (x < 0) = true := by simp; omega
        have RB := Lib.hid R.out.1.1.below
        clear hx R HR
        go_upto_region 10 with fail
        go_wp2_with fail
        go_ret
        exact ⟨rfl, RB.out⟩
      · have e1 : decide (x < 0) = false := by simp; omega
        by_cases h2 : 17592186044416 < x
        · have e2 : decide (17592186044416 < x) = true := by simp; omega
          have RB := Lib.hid R.out.1.1.below
          clear hx R HR
          go_upto_region 10 with fail
          go_wp2_with fail
          go_ret
          exact ⟨rfl, RB.out⟩
        · have e2 : decide (17592186044416 < x) = false := by simp; omega
          have R2 := Lib.hid (show (GrA P (some ⟨pb, po, none⟩) n L w wr ∧ Flg wr bc false ∧ w.heap.size < bc) ∧ ∀ i, i < k + 1 → 0 ≤ L i ∧ L i ≤ 17592186044416 from ⟨R.out.1, fun i hi => by
            by_cases e : i = k
            · rw [e, hx]; omega
            · exact HR.out i (by omega)⟩)
          clear hx R HR
          go_upto_region 10 with fail
          go_wp2_with fail
          go_roundw
          case rel => exact ⟨k + 1, by omega, by go_num, R2.out⟩
          case measure => simp [intOf]; omega
    · have hkn2 : k = n := by omega
      subst hkn2
      have d1 : decide ((k : Int) < (k : Int)) = false := by simp
      have TT := Lib.hid (TT0 R.out.2)
      have G5 := Lib.hid R.out.1
      clear R TT0 hk hkn
      obtain ⟨Q, hQ⟩ : ∃ x, gwQ (fr : Int) L k = x := ⟨_, rfl⟩
      have HQ := Lib.hid (show ∀ i, Q i = if fr ≤ i ∧ i < fr + k then L (i - fr) else 0 from fun i => by rw [← hQ]; exact gwQ_at fr L k hn i)
      have GC0 := fun (x : World) (k1 : x.cell? ⟨bc, 0, none⟩ = some (.bool false)) (k2 : x.frozen? ⟨bc, 0, none⟩ = false) (k3 : Slc x p k L) => grow_any ⟨bc, 0, none⟩ false P fr p k cp L x k1 k2 k3 (by omega) (by omega)
      rw [hQ] at GC0 TT
      rw [TT.out.flag] at GC0
      obtain ⟨A, hA⟩ : ∃ x, stepF P oneF Q = x := ⟨_, rfl⟩
      rw [hA] at GC0
      have GC := Lib.hid GC0
      have HA0 := Lib.hid hA
      clear hA GC0 hQ
      have P5 := G5.out.1.pB
      go_upto_region 12 with fail
      refine wp_region_lit ?_
      refine wpList_val (v := ?_) rfl ?_ ?_
      rotate_left
      · (go_simp; (try (first | with_reducible rfl | (constructor <;> with_reducible rfl))))
      (try simp only [Act.put, nA, nB, nC])
      refine wpList_val (v := ?_) rfl ?_ ?_
      rotate_left
      · refine Eq.trans (run_load_row 25 (.tmp 3) (by rfl) (w.heap.size) (by rfl) _ _ _ _ (P5) Try.underlying25 rfl (icov.trans (by rw [arrv_size]))) ?_; with_reducible rfl
      (try simp only [Act.put, nA, nB, nC])
      refine wpList_val (v := ?_) rfl ?_ ?_
      rotate_left
      · (go_simp; (try (first | with_reducible rfl | (constructor <;> with_reducible rfl))))
      (try simp only [Act.put, nA, nB, nC])
      refine wpList_val (v := ?_) rfl ?_ ?_
      rotate_left
      · (go_simp; (try (first | with_reducible rfl | (constructor <;> with_reducible rfl))))
      (try simp only [Act.put, nA, nB, nC])
      refine wpList_step (fun K hK => ?_)
      go_simp
      (refine (GC.out _ G5.out.2.1.cell G5.out.2.1.free G5.out.1.sl).mono ?_); rintro e w6 ⟨rfl, hu⟩; have U6 := Lib.hid hu; have R6 := Lib.hid (G5.out.1.upd' HL.out G5.out.2.2 hu); have F6 := Lib.hid (G5.out.2.1.hit hu); have l6 := G5.out.2.2; clear hu G5 P5 GC
      (try dsimp only)
      (try simp only [Act.put, nA, nB, nC])
      refine hK _ _ ?_
      clear hK K
      refine wpList_act (v := ?_) (w' := ?_) rfl ?_ ?_
      rotate_left 2
      · (go_simp; (try (first | with_reducible rfl | (constructor <;> with_reducible rfl))))
      (try simp only [Act.put, nA, nB, nC])
      refine wpList_done (w' := ?_) rfl ?_ ?_
      rotate_left
      · (refine Eq.trans (run_store_row 25 (.tmp 9) (.tmp 55) (by rfl) (w6.heap.size) (by rfl) (by rfl) (zblk w6) (icov.trans rfl)) ?_; with_reducible rfl)
      (try simp only [Act.put, nA, nB, nC])
      refine wpList_nil ?_
      have b6 : Below w6.heap.size w6 ((w6.alloc (.cells Try.zeroCells25 25)).setRow w6.heap.size (arrv 300 A)) := below_row ((Below.refl _ _).alloc (Nat.le_refl _) _) (Nat.le_refl _) _
      have S6 := Lib.hid (show GrB bc w6.heap.size 25 300 P A p k L w ((w6.alloc (.cells Try.zeroCells25 25)).setRow w6.heap.size (arrv 300 A)) from
        ⟨R6.out.down b6, F6.out.below b6, (zblk w6).setRow A, l6, F6.out.lt⟩)
      obtain ⟨ab, hab⟩ : ∃ x, w6.heap.size = x := ⟨_, rfl⟩
      rw [hab] at S6 ⊢
      generalize (w6.alloc (.cells Try.zeroCells25 25)).setRow ab (arrv 300 A) = W7 at *
      clear b6 R6 F6 U6 hab l6
      have CLS := Lib.hid (fun (i : Nat) (hi : i < 24) => show atH A i i = false ∧ atH P i i = false ∧ Go.Proofs.Ytipkdkeacdmnaaa.ab (atV P i i) ≤ 212000000000000 ∧ Go.Proofs.Ytipkdkeacdmnaaa.ab (atV A i i - atV P i i - Q i) ≤ 4294967296 by
        have h := TT.out.close hi hi (show i ≠ 24 by omega) (show i ≠ 24 by omega)
        rw [if_pos rfl, HA0.out] at h
        exact h)
      have DC17' := fun (x : World) (k1 : x.cell? ⟨bc, 0, none⟩ = some (.bool false)) (k2 : x.frozen? ⟨bc, 0, none⟩ = false) => diag_any ⟨bc, 0, none⟩ false P x k1 k2
      rw [show orB (dgB P) 24 = false from cl_orB fun i hi => (CLS.out i hi).2.1] at DC17'
      have DC17 := Lib.hid DC17'
      clear DC17'
      have C17 := S6.out.g.pB
      go_upto_region 13 with fail
      refine wp_region_lit ?_
      refine wpList_val (v := ?_) rfl ?_ ?_
      rotate_left
      · (go_simp; (try (first | with_reducible rfl | (constructor <;> with_reducible rfl))))
      (try simp only [Act.put, nA, nB, nC])
      refine wpList_val (v := ?_) rfl ?_ ?_
      rotate_left
      · refine Eq.trans (run_load_row 25 (.tmp 3) (by rfl) (w.heap.size) (by rfl) _ _ _ _ (C17) Try.underlying25 rfl (icov.trans (by rw [arrv_size]))) ?_; with_reducible rfl
      (try simp only [Act.put, nA, nB, nC])
      refine wpList_step (fun K hK => ?_)
      go_simp
      (refine (DC17.out _ S6.out.fl.cell S6.out.fl.free).mono ?_); rintro e w17 ⟨rfl, hu⟩; have U17 := Lib.hid hu; have HB2 := Lib.hid (S6.out.upd' HL.out hu); clear hu S6 C17 DC17
      (try dsimp only)
      (try simp only [Act.put, nA, nB, nC])
      refine hK _ _ ?_
      clear hK K
      refine wpList_act (v := ?_) (w' := ?_) rfl ?_ ?_
      rotate_left 2
      · (go_simp; (try (first | with_reducible rfl | (constructor <;> with_reducible rfl))))
      (try simp only [Act.put, nA, nB, nC])
      refine wpList_done (w' := ?_) rfl ?_ ?_
      rotate_left
      · (refine Eq.trans (run_store_row 23 (.tmp 10) (.tmp 58) (by rfl) (w17.heap.size) (by rfl) (by rfl) (show Blk (w17.alloc (.cells #[.int .i64 0, .int .i64 0, .int .i64 0, .int .i64 0, .int .i64 0, .int .i64 0, .int .i64 0, .int .i64 0, .int .i64 0, .int .i64 0, .int .i64 0, .int .i64 0, .int .i64 0, .int .i64 0, .int .i64 0, .int .i64 0, .int .i64 0, .int .i64 0, .int .i64 0, .int .i64 0, .int .i64 0, .int .i64 0, .int .i64 0, .int .i64 0] 23)) w17.heap.size 23 24 (fun _ => 0) by rw [zcol]; exact Blk.new _ _ _ _) (icol.trans rfl)) ?_; with_reducible rfl)
      (try simp only [Act.put, nA, nB, nC])
      refine wpList_nil ?_
      have b17 : Below w17.heap.size w17 ((w17.alloc (.cells #[.int .i64 0, .int .i64 0, .int .i64 0, .int .i64 0, .int .i64 0, .int .i64 0, .int .i64 0, .int .i64 0, .int .i64 0, .int .i64 0, .int .i64 0, .int .i64 0, .int .i64 0, .int .i64 0, .int .i64 0, .int .i64 0, .int .i64 0, .int .i64 0, .int .i64 0, .int .i64 0, .int .i64 0, .int .i64 0, .int .i64 0, .int .i64 0] 23)).setRow w17.heap.size (arrv 24 (dgF P))) := below_row ((Below.refl _ _).alloc (Nat.le_refl _) _) (Nat.le_refl _) _
      have N17 := Lib.hid (show Blk ((w17.alloc (.cells #[.int .i64 0, .int .i64 0, .int .i64 0, .int .i64 0, .int .i64 0, .int .i64 0, .int .i64 0, .int .i64 0, .int .i64 0, .int .i64 0, .int .i64 0, .int .i64 0, .int .i64 0, .int .i64 0, .int .i64 0, .int .i64 0, .int .i64 0, .int .i64 0, .int .i64 0, .int .i64 0, .int .i64 0, .int .i64 0, .int .i64 0, .int .i64 0] 23)).setRow w17.heap.size (arrv 24 (dgF P))) w17.heap.size 23 24 (dgF P) by rw [zcol]; exact (Blk.new _ _ _ _).setRow _)
      have S17 := Lib.hid (HB2.out.down b17)
      obtain ⟨d17, hd17⟩ : ∃ x, w17.heap.size = x := ⟨_, rfl⟩
      have l17 : bc < d17 := by rw [← hd17]; exact HB2.out.fl.lt
      rw [hd17] at N17 S17 ⊢
      generalize (w17.alloc (.cells #[.int .i64 0, .int .i64 0, .int .i64 0, .int .i64 0, .int .i64 0, .int .i64 0, .int .i64 0, .int .i64 0, .int .i64 0, .int .i64 0, .int .i64 0, .int .i64 0, .int .i64 0, .int .i64 0, .int .i64 0, .int .i64 0, .int .i64 0, .int .i64 0, .int .i64 0, .int .i64 0, .int .i64 0, .int .i64 0, .int .i64 0, .int .i64 0] 23)).setRow d17 (arrv 24 (dgF P)) = V17 at *
      clear HB2 hd17 b17 U17
      have DC18' := fun (x : World) (k1 : x.cell? ⟨bc, 0, none⟩ = some (.bool false)) (k2 : x.frozen? ⟨bc, 0, none⟩ = false) => diag_any ⟨bc, 0, none⟩ false A x k1 k2
      rw [show orB (dgB A) 24 = false from cl_orB fun i hi => (CLS.out i hi).1] at DC18'
      have DC18 := Lib.hid DC18'
      clear DC18'
      have C18 := S17.out.a
      go_upto_region 14 with fail
      refine wp_region_lit ?_
      refine wpList_val (v := ?_) rfl ?_ ?_
      rotate_left
      · (go_simp; (try (first | with_reducible rfl | (constructor <;> with_reducible rfl))))
      (try simp only [Act.put, nA, nB, nC])
      refine wpList_val (v := ?_) rfl ?_ ?_
      rotate_left
      · refine Eq.trans (run_load_row 25 (.tmp 9) (by rfl) (ab) (by rfl) _ _ _ _ (C18) Try.underlying25 rfl (icov.trans (by rw [arrv_size]))) ?_; with_reducible rfl
      (try simp only [Act.put, nA, nB, nC])
      refine wpList_step (fun K hK => ?_)
      go_simp
      (refine (DC18.out _ S17.out.fl.cell S17.out.fl.free).mono ?_); rintro e w18 ⟨rfl, hu⟩; have U18 := Lib.hid hu; have HB3 := Lib.hid (S17.out.upd' HL.out hu); clear hu S17 C18 DC18
      (try dsimp only)
      (try simp only [Act.put, nA, nB, nC])
      refine hK _ _ ?_
      clear hK K
      refine wpList_act (v := ?_) (w' := ?_) rfl ?_ ?_
      rotate_left 2
      · (go_simp; (try (first | with_reducible rfl | (constructor <;> with_reducible rfl))))
      (try simp only [Act.put, nA, nB, nC])
      refine wpList_done (w' := ?_) rfl ?_ ?_
      rotate_left
      · (refine Eq.trans (run_store_row 23 (.tmp 11) (.tmp 61) (by rfl) (w18.heap.size) (by rfl) (by rfl) (show Blk (w18.alloc (.cells #[.int .i64 0, .int .i64 0, .int .i64 0, .int .i64 0, .int .i64 0, .int .i64 0, .int .i64 0, .int .i64 0, .int .i64 0, .int .i64 0, .int .i64 0, .int .i64 0, .int .i64 0, .int .i64 0, .int .i64 0, .int .i64 0, .int .i64 0, .int .i64 0, .int .i64 0, .int .i64 0, .int .i64 0, .int .i64 0, .int .i64 0, .int .i64 0] 23)) w18.heap.size 23 24 (fun _ => 0) by rw [zcol]; exact Blk.new _ _ _ _) (icol.trans rfl)) ?_; with_reducible rfl)
      (try simp only [Act.put, nA, nB, nC])
      refine wpList_nil ?_
      have b18 : Below w18.heap.size w18 ((w18.alloc (.cells #[.int .i64 0, .int .i64 0, .int .i64 0, .int .i64 0, .int .i64 0, .int .i64 0, .int .i64 0, .int .i64 0, .int .i64 0, .int .i64 0, .int .i64 0, .int .i64 0, .int .i64 0, .int .i64 0, .int .i64 0, .int .i64 0, .int .i64 0, .int .i64 0, .int .i64 0, .int .i64 0, .int .i64 0, .int .i64 0, .int .i64 0, .int .i64 0] 23)).setRow w18.heap.size (arrv 24 (dgF A))) := below_row ((Below.refl _ _).alloc (Nat.le_refl _) _) (Nat.le_refl _) _
      have N18 := Lib.hid (show Blk ((w18.alloc (.cells #[.int .i64 0, .int .i64 0, .int .i64 0, .int .i64 0, .int .i64 0, .int .i64 0, .int .i64 0, .int .i64 0, .int .i64 0, .int .i64 0, .int .i64 0, .int .i64 0, .int .i64 0, .int .i64 0, .int .i64 0, .int .i64 0, .int .i64 0, .int .i64 0, .int .i64 0, .int .i64 0, .int .i64 0, .int .i64 0, .int .i64 0, .int .i64 0] 23)).setRow w18.heap.size (arrv 24 (dgF A))) w18.heap.size 23 24 (dgF A) by rw [zcol]; exact (Blk.new _ _ _ _).setRow _)
      have S18 := Lib.hid (HB3.out.down b18)
      have X18 := Lib.hid (((N17.out.upd U18.out (by simp only; omega))).below b18)
      obtain ⟨d18, hd18⟩ : ∃ x, w18.heap.size = x := ⟨_, rfl⟩
      have l18 : bc < d18 := by rw [← hd18]; exact HB3.out.fl.lt
      rw [hd18] at N18 S18 X18 ⊢
      generalize (w18.alloc (.cells #[.int .i64 0, .int .i64 0, .int .i64 0, .int .i64 0, .int .i64 0, .int .i64 0, .int .i64 0, .int .i64 0, .int .i64 0, .int .i64 0, .int .i64 0, .int .i64 0, .int .i64 0, .int .i64 0, .int .i64 0, .int .i64 0, .int .i64 0, .int .i64 0, .int .i64 0, .int .i64 0, .int .i64 0, .int .i64 0, .int .i64 0, .int .i64 0] 23)).setRow d18 (arrv 24 (dgF A)) = V18 at *
      clear HB3 hd18 b18 U18
      go_wp2_with fail
      go_loopw [12] (fun v wr => ∃ i : Nat, i ≤ 24 ∧ v = .int .i64 i ∧ Hid (Below w.heap.size w wr ∧ Flg wr bc false ∧ Blk wr d17 23 24 (dgF P) ∧ Blk wr d18 23 24 (dgF A) ∧ Slc wr p k L)) (fun v _ => 24 - (intOf v).toNat)
      case atStart => exact ⟨0, by omega, rfl, S18.out.g.below, S18.out.fl, X18.out, N18.out, S18.out.g.sl⟩
      case round =>
        obtain ⟨i, hi, rfl, R⟩ := hrel
        clear S18 X18 N18 N17
        by_cases hlt : i < 24
        · have d1 : decide ((i : Int) < 24) = true := by simp; omega
          have j0 : (0 : Int) ≤ (i : Int) := Int.natCast_nonneg _
          have j1 : (i : Int) < 24 := by omega
          have cl := CLS.out i hlt
          obtain ⟨x, hx⟩ : ∃ x, dgF P i = x := ⟨_, rfl⟩
          obtain ⟨y, hy⟩ : ∃ x, dgF A i = x := ⟨_, rfl⟩
          have hx' : atV P i i = x := hx
          have hy' : atV A i i = y := hy
          rw [hx', hy'] at cl
          have x0 := R.out.2.2.1.cell (i := i) (by omega)
          have y0 := R.out.2.2.2.1.cell (i := i) (by omega)
          rw [hx] at x0
          rw [hy] at y0
          have xb := ab_le cl.2.2.1
          have fb := ab_le cl.2.2.2
          have qe := HQ.out i
          have qn := TT.out.n i hlt
          have g1 : IntKind.i64.wrap (y - x) = y - x := IntWalk.i64_in _ (by omega)
          have g5 : IntKind.i64.wrap (-4294967296) = -4294967296 := by decide
          clear hx hy hx' hy' cl
          by_cases hin : fr ≤ i ∧ i < fr + k
          · obtain ⟨m, hm⟩ : ∃ m, i - fr = m := ⟨_, rfl⟩
            rw [if_pos hin, hm] at qe
            rw [qe] at fb qn
            have mk : m < k := by omega
            obtain ⟨pb, po, rfl, hcell⟩ := R.out.2.2.2.2 m mk
            obtain ⟨z, hz⟩ : ∃ z, L m = z := ⟨_, rfl⟩
            rw [hz] at fb qn hcell
            have q1 : decide (fr ≤ i) = true := by simp; omega
            have q2 : IntKind.i64.wrap ((i : Int) - (fr : Int)) = (m : Int) := by rw [show (i : Int) - (fr : Int) = (m : Int) by omega]; exact IntWalk.i64_in _ (by omega)
            have q3 : decide (m < k) = true := by simp; omega
            have g2 : IntKind.i64.wrap (y - x - z) = y - x - z := IntWalk.i64_in _ (by omega)
            have g3 : decide (4294967296 < y - x - z) = false := by simp; omega
            have g4 : decide (y - x - z < -4294967296) = false := by simp; omega
            have HR := Lib.hid R.out
            clear fb xb qe qn hz hin hm R
            go_upto_region 18 with fail
            refine wp_region_M (fun w' => w'.cell? ⟨d18, i, none⟩ = some (.int .i64 y) ∧ w'.cell? ⟨d17, i, none⟩ = some (.int .i64 x)) 7 (by kernel_rfl) ?_ (fun hHeld => ?_)
            · exact ⟨y0, x0⟩
            refine wpAnyM_take 0 (v := ?_) rfl (by kernel_rfl) (fun _ _ _ h => h) (Or.inl ⟨by rfl, ?_⟩) (by assumption) ?_
            rotate_left
            · (intro wx hSw; (try dsimp only at hSw); go_simp; (try with_reducible rfl))
            (try simp only [Act.put, nA, nB, nC])
            refine wpAnyM_take 1 (v := ?_) rfl (by kernel_rfl) (fun _ _ _ h => h) (Or.inl ⟨by rfl, ?_⟩) (by assumption) ?_
            rotate_left
            · (intro wx hSw; (try dsimp only at hSw); go_simp; (try with_reducible rfl))
            (try simp only [Act.put, nA, nB, nC])
            refine wpAnyM_take 2 (v := ?_) rfl (by kernel_rfl) (fun _ _ _ h => h) (Or.inl ⟨by rfl, ?_⟩) (by assumption) ?_
            rotate_left
            · (intro wx hSw; (try dsimp only at hSw); go_simp; (try with_reducible rfl))
            (try simp only [Act.put, nA, nB, nC])
            refine wpAnyM_take 3 (v := ?_) rfl (by kernel_rfl) (fun _ _ _ h => h) (Or.inl ⟨by rfl, ?_⟩) (by assumption) ?_
            rotate_left
            · (intro wx hSw; (try dsimp only at hSw); go_simp; (try with_reducible rfl))
            (try simp only [Act.put, nA, nB, nC])
            refine wpAnyM_take 4 (v := ?_) rfl (by kernel_rfl) (fun _ _ _ h => h) (Or.inl ⟨by rfl, ?_⟩) (by assumption) ?_
            rotate_left
            · (intro wx hSw; (try dsimp only at hSw); go_simp; (try with_reducible rfl))
            (try simp only [Act.put, nA, nB, nC])
            refine wpAnyM_take 5 (v := ?_) rfl (by kernel_rfl) (fun _ _ _ h => h) (Or.inl ⟨by rfl, ?_⟩) (by assumption) ?_
            rotate_left
            · (intro wx hSw; (try dsimp only at hSw); go_simp; (try with_reducible rfl))
            (try simp only [Act.put, nA, nB, nC])
            refine wpAnyM_take 6 (v := ?_) rfl (by kernel_rfl) (fun _ _ _ h => h) (Or.inl ⟨by rfl, ?_⟩) (by assumption) ?_
            rotate_left
            · (intro wx hSw; (try dsimp only at hSw); go_simp; (try with_reducible rfl))
            (try simp only [Act.put, nA, nB, nC])
            refine wpAnyM_one 7 rfl (by kernel_rfl) (fun K hK => ?_)
            go_simp
            refine hK.out _ _ (.inl (by kernel_rfl)) (fun _ => ?_)
            clear hK K
            (try simp only [Act.put, nA, nB, nC])
            refine wpAnyM_done (by kernel_rfl) ?_ _
            go_upto_region 19 with fail
            refine wp_region_lit ?_
            refine wpList_val (v := ?_) rfl ?_ ?_
            rotate_left
            · (go_simp; (try (first | with_reducible rfl | (constructor <;> with_reducible rfl))))
            (try simp only [Act.put, nA, nB, nC])
            refine wpList_val (v := ?_) rfl ?_ ?_
            rotate_left
            · (go_simp; (try (first | with_reducible rfl | (constructor <;> with_reducible rfl))))
            (try simp only [Act.put, nA, nB, nC])
            refine wpList_val (v := ?_) rfl ?_ ?_
            rotate_left
            · (go_simp; (try simp only [q1]); (try with_reducible rfl))
            (try simp only [Act.put, nA, nB, nC])
            refine wpList_val (v := ?_) rfl ?_ ?_
            rotate_left
            · (go_simp; (try (first | with_reducible rfl | (constructor <;> with_reducible rfl))))
            (try simp only [Act.put, nA, nB, nC])
            first | (refine wpList_val (v := ?_) (by rfl) ?_ ?_; rotate_left; focus ((go_simp; (try (first | with_reducible rfl | (constructor <;> with_reducible rfl)))))) | refine wpList_skip (by rfl) ?_
            (try simp only [Act.put, nA, nB, nC])
            first | (refine wpList_val (v := ?_) (by rfl) ?_ ?_; rotate_left; focus ((go_simp; (try (first | with_reducible rfl | (constructor <;> with_reducible rfl)))))) | refine wpList_skip (by rfl) ?_
            (try simp only [Act.put, nA, nB, nC])
            first | (refine wpList_val (v := ?_) (by rfl) ?_ ?_; rotate_left; focus ((go_simp; (try rw [q2]); (try with_reducible rfl)))) | refine wpList_skip (by rfl) ?_
            (try simp only [Act.put, nA, nB, nC])
            first | (refine wpList_val (v := ?_) (by rfl) ?_ ?_; rotate_left; focus ((go_simp; (try (first | with_reducible rfl | (constructor <;> with_reducible rfl)))))) | refine wpList_skip (by rfl) ?_
            (try simp only [Act.put, nA, nB, nC])
            first | (refine wpList_val (v := ?_) (by rfl) ?_ ?_; rotate_left; focus ((go_simp; (try (first | with_reducible rfl | (constructor <;> with_reducible rfl)))))) | refine wpList_skip (by rfl) ?_
            (try simp only [Act.put, nA, nB, nC])
            first | (refine wpList_val (v := ?_) (by rfl) ?_ ?_; rotate_left; focus ((go_simp; (try simp only [q3]); (try with_reducible rfl)))) | refine wpList_skip (by rfl) ?_
            (try simp only [Act.put, nA, nB, nC])
            refine wpList_val (v := ?_) rfl ?_ ?_
            rotate_left
            · (go_simp; (try (first | with_reducible rfl | (constructor <;> with_reducible rfl))))
            (try simp only [Act.put, nA, nB, nC])
            refine wpList_nil ?_
            clear x0 y0
            go_upto_region 20 with fail
            refine wp_region_lit ?_
            refine wpList_val (v := ?_) rfl ?_ ?_
            rotate_left
            · (go_simp; (try (first | with_reducible rfl | (constructor <;> with_reducible rfl))))
            (try simp only [Act.put, nA, nB, nC])
            refine wpList_val (v := ?_) rfl ?_ ?_
            rotate_left
            · (go_simp; (try (first | with_reducible rfl | (constructor <;> with_reducible rfl))))
            (try simp only [Act.put, nA, nB, nC])
            refine wpList_val (v := ?_) rfl ?_ ?_
            rotate_left
            · (go_simp; (try (first | with_reducible rfl | (constructor <;> with_reducible rfl))))
            (try simp only [Act.put, nA, nB, nC])
            refine wpList_val (v := ?_) rfl ?_ ?_
            rotate_left
            · (go_simp; (try (first | with_reducible rfl | (constructor <;> with_reducible rfl))))
            (try simp only [Act.put, nA, nB, nC])
            refine wpList_val (v := ?_) rfl ?_ ?_
            rotate_left
            · (go_simp; (try rw [q2]); (try with_reducible rfl))
            (try simp only [Act.put, nA, nB, nC])
            refine wpList_val (v := ?_) rfl ?_ ?_
            rotate_left
            · (go_simp; (try (first | with_reducible rfl | (constructor <;> with_reducible rfl))))
            (try simp only [Act.put, nA, nB, nC])
            refine wpList_val (v := ?_) rfl ?_ ?_
            rotate_left
            · (go_simp; (try (first | with_reducible rfl | (constructor <;> with_reducible rfl))))
            (try simp only [Act.put, nA, nB, nC])
            refine wpList_val (v := ?_) rfl ?_ ?_
            rotate_left
            · (go_simp; (try (first | with_reducible rfl | (constructor <;> with_reducible rfl))))
            (try simp only [Act.put, nA, nB, nC])
            refine wpList_val (v := ?_) rfl ?_ ?_
            rotate_left
            · (go_simp; (try (first | with_reducible rfl | (constructor <;> with_reducible rfl))))
            (try simp only [Act.put, nA, nB, nC])
            refine wpList_nil ?_
            go_wp2_with fail
            go_roundw
            case rel => exact ⟨i + 1, by omega, by go_num, Below.drew HR.out.1, HR.out.2⟩
            case measure => simp [intOf]; omega
          · rw [if_neg hin] at qe
            rw [qe, Int.sub_zero] at fb
            have g3 : decide (4294967296 < y - x) = false := by simp; omega
            have g4 : decide (y - x < -4294967296) = false := by simp; omega
            have hc : decide (fr ≤ i) = false ∨ (decide (fr ≤ i) = true ∧ IntKind.i64.wrap ((i : Int) - (fr : Int)) = ((i - fr : Nat) : Int) ∧ decide (i - fr < k) = false) := by
              by_cases h : fr ≤ i
              · refine .inr ⟨by simp; omega, ?_, by simp; omega⟩
                rw [show (i : Int) - (fr : Int) = ((i - fr : Nat) : Int) by omega]; exact IntWalk.i64_in _ (by omega)
              · exact .inl (by simp; omega)
            have HR := Lib.hid R.out
            clear fb xb qe qn hin R
            obtain ⟨m, hm⟩ : ∃ m, i - fr = m := ⟨_, rfl⟩
            rw [hm] at hc
            clear hm
            rcases hc with q1 | ⟨q1, q2, q3⟩
            all_goals
              go_upto_region 18 with fail
              refine wp_region_M (fun w' => w'.cell? ⟨d18, i, none⟩ = some (.int .i64 y) ∧ w'.cell? ⟨d17, i, none⟩ = some (.int .i64 x)) 7 (by kernel_rfl) ?_ (fun hHeld => ?_)
              · exact ⟨y0, x0⟩
              refine wpAnyM_take 0 (v := ?_) rfl (by kernel_rfl) (fun _ _ _ h => h) (Or.inl ⟨by rfl, ?_⟩) (by assumption) ?_
              rotate_left
              · (intro wx hSw; (try dsimp only at hSw); go_simp; (try with_reducible rfl))
              (try simp only [Act.put, nA, nB, nC])
              refine wpAnyM_take 1 (v := ?_) rfl (by kernel_rfl) (fun _ _ _ h => h) (Or.inl ⟨by rfl, ?_⟩) (by assumption) ?_
              rotate_left
              · (intro wx hSw; (try dsimp only at hSw); go_simp; (try with_reducible rfl))
              (try simp only [Act.put, nA, nB, nC])
              refine wpAnyM_take 2 (v := ?_) rfl (by kernel_rfl) (fun _ _ _ h => h) (Or.inl ⟨by rfl, ?_⟩) (by assumption) ?_
              rotate_left
              · (intro wx hSw; (try dsimp only at hSw); go_simp; (try with_reducible rfl))
              (try simp only [Act.put, nA, nB, nC])
              refine wpAnyM_take 3 (v := ?_) rfl (by kernel_rfl) (fun _ _ _ h => h) (Or.inl ⟨by rfl, ?_⟩) (by assumption) ?_
              rotate_left
              · (intro wx hSw; (try dsimp only at hSw); go_simp; (try with_reducible rfl))
              (try simp only [Act.put, nA, nB, nC])
              refine wpAnyM_take 4 (v := ?_) rfl (by kernel_rfl) (fun _ _ _ h => h) (Or.inl ⟨by rfl, ?_⟩) (by assumption) ?_
              rotate_left
              · (intro wx hSw; (try dsimp only at hSw); go_simp; (try with_reducible rfl))
              (try simp only [Act.put, nA, nB, nC])
              refine wpAnyM_take 5 (v := ?_) rfl (by kernel_rfl) (fun _ _ _ h => h) (Or.inl ⟨by rfl, ?_⟩) (by assumption) ?_
              rotate_left
              · (intro wx hSw; (try dsimp only at hSw); go_simp; (try with_reducible rfl))
              (try simp only [Act.put, nA, nB, nC])
              refine wpAnyM_take 6 (v := ?_) rfl (by kernel_rfl) (fun _ _ _ h => h) (Or.inl ⟨by rfl, ?_⟩) (by assumption) ?_
              rotate_left
              · (intro wx hSw; (try dsimp only at hSw); go_simp; (try with_reducible rfl))
              (try simp only [Act.put, nA, nB, nC])
              refine wpAnyM_one 7 rfl (by kernel_rfl) (fun K hK => ?_)
              go_simp
              refine hK.out _ _ (.inl (by kernel_rfl)) (fun _ => ?_)
              clear hK K
              (try simp only [Act.put, nA, nB, nC])
              refine wpAnyM_done (by kernel_rfl) ?_ _
              go_upto_region 19 with fail
              refine wp_region_lit ?_
              refine wpList_val (v := ?_) rfl ?_ ?_
              rotate_left
              · (go_simp; (try (first | with_reducible rfl | (constructor <;> with_reducible rfl))))
              (try simp only [Act.put, nA, nB, nC])
              refine wpList_val (v := ?_) rfl ?_ ?_
              rotate_left
              · (go_simp; (try (first | with_reducible rfl | (constructor <;> with_reducible rfl))))
              (try simp only [Act.put, nA, nB, nC])
              refine wpList_val (v := ?_) rfl ?_ ?_
              rotate_left
              · (go_simp; (try simp only [q1]); (try with_reducible rfl))
              (try simp only [Act.put, nA, nB, nC])
              refine wpList_val (v := ?_) rfl ?_ ?_
              rotate_left
              · (go_simp; (try (first | with_reducible rfl | (constructor <;> with_reducible rfl))))
              (try simp only [Act.put, nA, nB, nC])
              first | (refine wpList_val (v := ?_) (by rfl) ?_ ?_; rotate_left; focus ((go_simp; (try (first | with_reducible rfl | (constructor <;> with_reducible rfl)))))) | refine wpList_skip (by rfl) ?_
              (try simp only [Act.put, nA, nB, nC])
              first | (refine wpList_val (v := ?_) (by rfl) ?_ ?_; rotate_left; focus ((go_simp; (try (first | with_reducible rfl | (constructor <;> with_reducible rfl)))))) | refine wpList_skip (by rfl) ?_
              (try simp only [Act.put, nA, nB, nC])
              first | (refine wpList_val (v := ?_) (by rfl) ?_ ?_; rotate_left; focus ((go_simp; (try rw [q2]); (try with_reducible rfl)))) | refine wpList_skip (by rfl) ?_
              (try simp only [Act.put, nA, nB, nC])
              first | (refine wpList_val (v := ?_) (by rfl) ?_ ?_; rotate_left; focus ((go_simp; (try (first | with_reducible rfl | (constructor <;> with_reducible rfl)))))) | refine wpList_skip (by rfl) ?_
              (try simp only [Act.put, nA, nB, nC])
              first | (refine wpList_val (v := ?_) (by rfl) ?_ ?_; rotate_left; focus ((go_simp; (try (first | with_reducible rfl | (constructor <;> with_reducible rfl)))))) | refine wpList_skip (by rfl) ?_
              (try simp only [Act.put, nA, nB, nC])
              first | (refine wpList_val (v := ?_) (by rfl) ?_ ?_; rotate_left; focus ((go_simp; (try simp only [q3]); (try with_reducible rfl)))) | refine wpList_skip (by rfl) ?_
              (try simp only [Act.put, nA, nB, nC])
              refine wpList_val (v := ?_) rfl ?_ ?_
              rotate_left
              · (go_simp; (try (first | with_reducible rfl | (constructor <;> with_reducible rfl))))
              (try simp only [Act.put, nA, nB, nC])
              refine wpList_nil ?_
              clear x0 y0
              go_wp2_with fail
              go_roundw
              case rel => exact ⟨i + 1, by omega, by go_num, Below.drew HR.out.1, HR.out.2⟩
              case measure => simp [intOf]; omega
        · have hi24 : i = 24 := by omega
          subst hi24
          rw [show ((24 : Nat) : Int) = 24 from rfl]
          have c0 := R.out.2.1.cell
          go_wp2_with fail
          go_ret
          exact ⟨rfl, R.out.1⟩
theorem grow_walk (P : Nat → Int) (fr : Int) (p : Option Addr) (n cp : Nat) (L : Nat → Int) (w : World) (hL : Slc w p n L) (hfr : -9223372036854775808 ≤ fr ∧ fr ≤ 9223372036854775807) (hb : ∀ i, i < n → -9223372036854775808 ≤ L i ∧ L i ≤ 9223372036854775807) :
    Calls Try.prog 6 #[.agg (arrv 300 P), .int .i64 fr, .slice p n cp] w fun e w' => e = .returned (.bool true) ∧ Below w.heap.size w w' := by
  by_cases h : fr < 0 ∨ 23 < fr ∨ 24 - fr < (n : Int)
  · exact grow_noop P fr p n cp w h hfr
  · obtain ⟨m, rfl⟩ : ∃ m : Nat, fr = (m : Int) := ⟨fr.toNat, by omega⟩
    exact grow_yes P m p n cp L w hL (by omega) (by omega) hb
end Go.Proofs.Ytipkdkeacdmnaaa
