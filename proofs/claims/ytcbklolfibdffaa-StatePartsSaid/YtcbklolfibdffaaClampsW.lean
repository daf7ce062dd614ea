/- The walk of StateClamps. -/
import Derived.Test.YtcbklolfibdffaaAwk15
namespace Go.Proofs.Ytcbklolfibdffaa
open Go.RowKit
set_option maxRecDepth 100000
theorem keepI_hi (S : Nat → Int) (k : Nat) : keepI S (4 + k) = S (4 + k) := by
  unfold keepI; split
  · rfl
  · unfold turnd; rw [if_neg (by omega)]
theorem keepF_hi (S : Nat → Int) (k : Nat) : keepF S (4 + k) = clampV (S (4 + k)) (-(boxF (4 + k))) (boxF (4 + k)) := by
  unfold keepF clmF; rw [if_neg (by omega), keepI_hi]
theorem orB_congr {p q : Nat → Bool} : ∀ {n : Nat}, (∀ i, i < n → p i = q i) → orB p n = orB q n
  | 0, _ => rfl
  | n + 1, h => by simp only [orB]; rw [orB_congr fun i hi => h i (by omega), h n (by omega)]
theorem keepH_hi (S : Nat → Int) : orB (clmP S) 20 = true → keepH S = true := by
  intro h
  have : clmH (keepI S) = orB (clmP S) 20 := orB_congr fun i _ => by unfold clmP; rw [keepI_hi]
  unfold keepH
  rw [this, h, Bool.or_true]
theorem clmP_A {x M : Int} (h : M < x) (hM : 0 ≤ M) : clampV x (-M) M = M ∧ clampH x (-M) M = true := by
  unfold clampV clampH; rw [if_neg (by omega), if_neg (by omega), if_pos h]; simp; omega
theorem clmP_B {x M : Int} (h : x < -M) (hM : 0 ≤ M) : clampV x (-M) M = -M ∧ clampH x (-M) M = true := by
  unfold clampV clampH; rw [if_neg (by omega), if_pos h]; simp; omega
theorem clmP_C {x M : Int} (h1 : ¬ M < x) (h2 : ¬ x < -M) : clampV x (-M) M = x ∧ clampH x (-M) M = false := by
  unfold clampV clampH; rw [if_neg (by omega), if_neg h2, if_neg h1]; simp; omega
structure ClwR (bc kb bb : Nat) (S : Nat → Int) (w wr : World) : Prop where
  below : Below w.heap.size w wr
  flg : Flg wr bc (keepH S)
  s : Blk wr w.heap.size 27 24 S
  k : Blk wr kb 27 24 (keepF S)
  b : Blk wr bb 29 24 boxF
set_option maxHeartbeats 8000000 in
theorem clamps_walk (S : Nat → Int) (w : World) :
    Calls Try.prog 6 #[.agg (arrv 24 S)] w fun e w' => e = .returned (.bool true) ∧ Below w.heap.size w w' := by
  have P0 : Blk (w.alloc (.cells (arrv 24 S) 27)) w.heap.size 27 24 S := Blk.new w _ 24 _
  have B0 : Below w.heap.size w (w.alloc (.cells (arrv 24 S) 27)) := by (repeat (first | with_reducible exact Below.refl _ _ | with_reducible apply Below.drew | (with_reducible refine below_drewN ?_ _) | (with_reducible refine Below.alloc ?_ (by (try simp) <;> omega) _) | (with_reducible refine Below.setCell ?_ (by (try simp) <;> omega) _)))
  have P0 := Lib.hid P0
  have B0 := Lib.hid B0
  go_enter Try.func6, Try.ntmps6
  go_upto_region 1 with fail
  generalize w.alloc (.cells (arrv 24 S) 27) = W0 at *
  go_upto_region 3 with (go_at_call 7; (refine (awake15_any _).mono ?_); rintro e w1 ⟨rfl, hb1⟩; have P1 := Lib.hid (P0.out.below hb1); have B1 := Lib.hid (Below.after B0.out hb1); clear hb1)
  obtain ⟨bc, hbc⟩ : ∃ x, w1.heap.size = x := ⟨_, rfl⟩
  have hbp : w.heap.size < bc := by rw [← hbc]; exact P1.out.lt
  have F2 : Flg (w1.alloc (.cells #[.bool false] 25)) bc false := by rw [← hbc]; exact Flg.new w1 false
  have P2 := P1.out.alloc (.cells #[.bool false] 25)
  have B2 := Lib.hid (B1.out.alloc B1.out.size (.cells #[.bool false] 25))
  have F2 := Lib.hid F2
  have HBC := Lib.hid hbc
  clear P0 B0 P1 B1 hbc
  go_upto_region 4 with fail
  (try rw [HBC.out])
  generalize w1.alloc (.cells #[.bool false] 25) = W2 at *
  clear HBC
  have K2 := Lib.hid (keep_any ⟨bc, 0, none⟩ false S W2 F2.out.cell F2.out.free)
  go_upto_region 5 with (first | (refine wpList_load_row rfl 27 _ rfl (w.heap.size) rfl 27 _ (0, 0) _ (P2) Try.underlying27 rfl (ist.trans (by rw [arrv_size])) ?_) | (go_at_call 8; (refine K2.out.mono ?_); rintro e w3 ⟨rfl, hu3⟩; have F3 := Lib.hid (F2.out.hit hu3); have P3 := Lib.hid (P2.upd hu3 (by show w.heap.size ≠ bc; omega)); have B3 := Lib.hid (own_upd B2.out (by show w.heap.size ≤ bc; omega) hu3); have R3 : Blk (w3.alloc (.cells #[.int .i64 0, .int .i64 0, .int .i64 0, .int .i64 0, .int .i64 0, .int .i64 0, .int .i64 0, .int .i64 0, .int .i64 0, .int .i64 0, .int .i64 0, .int .i64 0, .int .i64 0, .int .i64 0, .int .i64 0, .int .i64 0, .int .i64 0, .int .i64 0, .int .i64 0, .int .i64 0, .int .i64 0, .int .i64 0, .int .i64 0, .int .i64 0] 27)) w3.heap.size 27 24 (fun _ => 0) := (by rw [zvec24]; exact Blk.new _ _ 24 _); clear hu3) | (refine wpList_store_row rfl 27 _ _ rfl (w3.heap.size) _ rfl rfl 27 _ (R3) (ist.trans (by rw [arrv_size])) (by rw [arrv_size, arrv_size]) (oneCell_arrv _ _) ?_))
  obtain ⟨w4, hw4⟩ : ∃ x, x = (w3.alloc (.cells #[.int .i64 0, .int .i64 0, .int .i64 0, .int .i64 0, .int .i64 0, .int .i64 0, .int .i64 0, .int .i64 0, .int .i64 0, .int .i64 0, .int .i64 0, .int .i64 0, .int .i64 0, .int .i64 0, .int .i64 0, .int .i64 0, .int .i64 0, .int .i64 0, .int .i64 0, .int .i64 0, .int .i64 0, .int .i64 0, .int .i64 0, .int .i64 0] 27)).setRow w3.heap.size (arrv 24 (keepF S)) := ⟨_, rfl⟩
  rw [← hw4]
  obtain ⟨K4, MB4⟩ := st_made w3 (keepF S) w4 hw4
  have F4 := Lib.hid (F3.out.below MB4)
  have P4 := Lib.hid (P3.out.below MB4)
  have B4 := Lib.hid (Below.after B3.out MB4)
  obtain ⟨kb, hkb⟩ : ∃ x, w3.heap.size = x := ⟨_, rfl⟩
  rw [hkb] at K4 ⊢
  have K4 := Lib.hid K4
  clear hw4 hkb R3 MB4 F3 P3 B3 K2 P2 F2 B2
  go_upto_region 6 with (first | (go_at_call 9; (refine (bounds_any _).mono ?_); rintro e w5 ⟨rfl, hb5⟩; have F5 := Lib.hid (F4.out.below hb5); have P5 := Lib.hid (P4.out.below hb5); have K5 := Lib.hid (K4.out.below hb5); have B5 := Lib.hid (Below.after B4.out hb5); have R5 : Blk (w5.alloc (.cells #[.int .i64 0, .int .i64 0, .int .i64 0, .int .i64 0, .int .i64 0, .int .i64 0, .int .i64 0, .int .i64 0, .int .i64 0, .int .i64 0, .int .i64 0, .int .i64 0, .int .i64 0, .int .i64 0, .int .i64 0, .int .i64 0, .int .i64 0, .int .i64 0, .int .i64 0, .int .i64 0, .int .i64 0, .int .i64 0, .int .i64 0, .int .i64 0] 29)) w5.heap.size 29 24 (fun _ => 0) := (by rw [zvec24]; exact Blk.new _ _ 24 _); clear hb5) | (refine wpList_store_row rfl 29 _ _ rfl (w5.heap.size) _ rfl rfl 29 _ (R5) (ibox.trans (by rw [arrv_size])) (by rw [arrv_size, arrv_size]) (oneCell_arrv _ _) ?_))
  obtain ⟨w6, hw6⟩ : ∃ x, x = (w5.alloc (.cells #[.int .i64 0, .int .i64 0, .int .i64 0, .int .i64 0, .int .i64 0, .int .i64 0, .int .i64 0, .int .i64 0, .int .i64 0, .int .i64 0, .int .i64 0, .int .i64 0, .int .i64 0, .int .i64 0, .int .i64 0, .int .i64 0, .int .i64 0, .int .i64 0, .int .i64 0, .int .i64 0, .int .i64 0, .int .i64 0, .int .i64 0, .int .i64 0] 29)).setRow w5.heap.size (arrv 24 boxF) := ⟨_, rfl⟩
  rw [← hw6]
  obtain ⟨X6, MB6⟩ := Blk.made (T := 29) zvec24 boxF hw6
  obtain ⟨bb, hbb⟩ : ∃ x, w5.heap.size = x := ⟨_, rfl⟩
  rw [hbb] at X6 ⊢
  have R6 : Hid (ClwR bc kb bb S w w6) := Lib.hid ⟨Below.after B5.out MB6, F5.out.below MB6, P5.out.below MB6, K5.out.below MB6, X6⟩
  clear hw6 hbb R5 MB6 F5 P5 K5 B5 X6 F4 P4 K4 B4
  go_wp2_with fail
  go_loop [6, 7] (fun h i => ∃ k : Nat, k ≤ 20 ∧ i = .int .i64 (4 + (k : Int)) ∧ h = .bool (orB (clmP S) k)) (fun _ i => 24 - (intOf i).toNat)
  case atStart => exact ⟨0, by omega, rfl, rfl⟩
  case round =>
    obtain ⟨k, hk, rfl, rfl⟩ := hrel
    by_cases hlt : k < 20
    · have s0 := R6.out.s.cell (i := 4 + k) (by omega)
      have k0 := R6.out.k.cell (i := 4 + k) (by omega)
      have b0 := R6.out.b.cell (i := 4 + k) (by omega)
      rw [keepF_hi] at k0
      have hM := boxF_bd (4 + k)
      have hP : orB (clmP S) (k + 1) = (orB (clmP S) k || clampH (S (4 + k)) (-(boxF (4 + k))) (boxF (4 + k))) := rfl
      obtain ⟨M, hMe⟩ : ∃ M, boxF (4 + k) = M := ⟨_, rfl⟩
      obtain ⟨x, hx⟩ : ∃ x, S (4 + k) = x := ⟨_, rfl⟩
      obtain ⟨H, hH⟩ : ∃ H, orB (clmP S) k = H := ⟨_, rfl⟩
      rw [hMe, hx] at k0 hP
      rw [hMe] at b0 hM
      rw [hx] at s0
      rw [hH] at hP ⊢
      have hneg := neg_in M (by omega)
      have d1 : decide (4 + (k : Int) < 24) = true := by simp; omega
      have i0 : (0 : Int) ≤ 4 + (k : Int) := by omega
      have i1 : 4 + (k : Int) < 24 := by omega
      have i2 : (4 + (k : Int)).toNat = 4 + k := by omega
      have d9 : decide (M < -M) = false := by simp; omega
      have hMx : 0 ≤ M := by omega
      clear hMe hx hH hM
      by_cases hA : M < x
      · obtain ⟨v1, v2⟩ := clmP_A hA hMx
        rw [v1] at k0
        rw [v2, Bool.or_true] at hP
        have HP := Lib.hid hP
        have e1 : decide (M < x) = true := by simpa using hA
        have e2 : (M == x) = false := by simp; omega
        have e3 : (M != x) = true := by simp; omega
        clear hP v1 v2 hA
        cases H
        all_goals
          go_wp2_with fail
          go_round
          case rel => exact ⟨k + 1, by omega, by congr 1 <;> omega, by rw [HP.out]⟩
          case measure => simp [intOf]; omega
      · by_cases hB : x < -M
        · obtain ⟨v1, v2⟩ := clmP_B hB hMx
          rw [v1] at k0
          rw [v2, Bool.or_true] at hP
          have HP := Lib.hid hP
          have e1 : decide (M < x) = false := by simpa using hA
          have e4 : decide (x < -M) = true := by simpa using hB
          have e2 : (-M == x) = false := by simp; omega
          have e3 : (-M != x) = true := by simp; omega
          clear hP v1 v2 hA hB
          cases H
          all_goals
            go_wp2_with fail
            go_round
            case rel => exact ⟨k + 1, by omega, by congr 1 <;> omega, by rw [HP.out]⟩
            case measure => simp [intOf]; omega
        · obtain ⟨v1, v2⟩ := clmP_C hA hB
          rw [v1] at k0
          rw [v2, Bool.or_false] at hP
          have HP := Lib.hid hP
          have e1 : decide (M < x) = false := by simpa using hA
          have e4 : decide (x < -M) = false := by simpa using hB
          clear hP v1 v2 hA hB
          cases H
          all_goals
            go_wp2_with fail
            go_round
            case rel => exact ⟨k + 1, by omega, by congr 1 <;> omega, by rw [HP.out]⟩
            case measure => simp [intOf]; omega
    · have hk20 : k = 20 := by omega
      subst hk20
      rw [show (4 + ((20 : Nat) : Int)) = 24 from rfl]
      have c0 := R6.out.flg.cell
      have hb := R6.out.below
      have HB := Lib.hid hb
      clear hb
      cases hH : orB (clmP S) 20
      · clear c0
        go_wp2_with fail
        go_ret
        exact ⟨rfl, HB.out⟩
      · rw [keepH_hi S hH] at c0
        clear hH
        go_wp2_with fail
        go_ret
        exact ⟨rfl, HB.out⟩
end Go.Proofs.Ytcbklolfibdffaa
