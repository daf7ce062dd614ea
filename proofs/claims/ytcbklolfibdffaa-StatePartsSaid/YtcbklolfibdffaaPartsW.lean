/- The walk of StateParts. -/
import Derived.Test.YtcbklolfibdffaaKeptP
import Derived.Test.YtcbklolfibdffaaBsl
import Derived.Deep.QuietTactic
import Derived.BigQuiet
namespace Go.Proofs.Ytcbklolfibdffaa
open Go.RowKit
set_option maxRecDepth 100000
def three (x y z : Int) : Nat → Int := fun i => if i = 0 then x else if i = 1 then y else z
theorem with_out (S L : Nat → Int) (a : Int) (i : Nat) (h : (i : Int) < a ∨ a + 2 < i) : withF S a 3 L i = S i := by unfold withF; rw [if_neg (by omega)]
theorem part_with (S : Nat → Int) (a x y z : Int) (a0 : 0 ≤ a) (a1 : a ≤ 21) : partF (withF S a 3 (three x y z)) a 0 = x ∧ partF (withF S a 3 (three x y z)) a 1 = y ∧ partF (withF S a 3 (three x y z)) a 2 = z := by
  have e : ∀ k : Nat, k < 3 → partF (withF S a 3 (three x y z)) a k = three x y z k := fun k hk => by
    unfold partF; rw [if_pos (by omega)]; unfold withF; rw [if_pos (by omega)]; congr 1; omega
  exact ⟨e 0 (by decide), e 1 (by decide), e 2 (by decide)⟩
structure PaR (tb vb kb wb eb : Nat) (S T V Kk Ww : Nat → Int) (w w' : World) : Prop where
  below : Below w.heap.size w w'
  flg : Flg w' eb false
  s : Blk w' w.heap.size 27 24 S
  t : Blk w' tb 27 24 T
  v : Blk w' vb 32 3 V
  k : Blk w' kb 27 24 Kk
  ww : Blk w' wb 27 24 Ww
theorem PaR.down {tb vb kb wb eb : Nat} {S T V Kk Ww : Nat → Int} {w w1 w2 : World} (r : PaR tb vb kb wb eb S T V Kk Ww w w1) (u : Below w1.heap.size w1 w2) : PaR tb vb kb wb eb S T V Kk Ww w w2 :=
  ⟨Below.after r.below u, r.flg.below u, r.s.below u, r.t.below u, r.v.below u, r.k.below u, r.ww.below u⟩
set_option maxHeartbeats 8000000 in
theorem parts_in (S : Nat → Int) (a x y z : Int) (w : World) (a0 : 0 ≤ a) (a1 : a ≤ 21) :
    Calls Try.prog 5 #[.agg (arrv 24 S), .int .i64 a, .int .i64 x, .int .i64 y, .int .i64 z] w fun e w' => e = .returned (.bool true) ∧ Below w.heap.size w w' := by
  have P0 : Blk (w.alloc (.cells (arrv 24 S) 27)) w.heap.size 27 24 S := Blk.new w _ 24 _
  have B0 : Below w.heap.size w (w.alloc (.cells (arrv 24 S) 27)) := by (repeat (first | with_reducible exact Below.refl _ _ | with_reducible apply Below.drew | (with_reducible refine below_drewN ?_ _) | (with_reducible refine Below.alloc ?_ (by (try simp) <;> omega) _) | (with_reducible refine Below.setCell ?_ (by (try simp) <;> omega) _)))
  have P0 := Lib.hid P0
  have B0 := Lib.hid B0
  have d1 : decide (a < 0) = false := by simp; omega
  have d2 : decide (21 < a) = false := by simp; omega
  go_enter Try.func5, Try.ntmps5
  go_upto_region 1 with fail
  generalize w.alloc (.cells (arrv 24 S) 27) = W0 at *
  go_upto_region 5 with (go_at_call 7; (refine (awake15_any _).mono ?_); rintro e w1 ⟨rfl, hb1⟩; have P1 := P0.out.below hb1; have B1 := Lib.hid (Below.after B0.out hb1); clear hb1)
  clear P0 B0 d1 d2
  have LV := part_with S a x y z a0 a1
  have TO := fun i h => with_out S (three x y z) a i h
  obtain ⟨T, hT⟩ : ∃ T, withF S a 3 (three x y z) = T := ⟨_, rfl⟩
  rw [hT] at LV TO
  obtain ⟨V, hV⟩ : ∃ V, partF T a = V := ⟨_, rfl⟩
  rw [hV] at LV
  have KG := keep_good T
  obtain ⟨Kk, hK⟩ : ∃ Kk, keepF T = Kk := ⟨_, rfl⟩
  rw [hK] at KG
  have AG : goodB (addNF Kk zeS 1) = true := add_good Kk _
  have AZ := add_zero KG
  have WN : ∀ i, i < 24 → 4 ≤ i → addNF Kk zeS 1 i = Kk i := AZ.1
  have WH : addNH Kk zeS 1 = false := by show (addNH Kk zeS 0 || add1H Kk _) = false; rw [show (fun i => zeS (0 * 24 + i)) = (fun _ => 0) from rfl]; rw [show addNH Kk zeS 0 = false from rfl, AZ.2]; rfl
  obtain ⟨Ww, hW⟩ : ∃ Ww, addNF Kk zeS 1 = Ww := ⟨_, rfl⟩
  rw [hW] at AG WN
  have E1 := Lib.hid (And.intro hT (And.intro hV (And.intro hK hW)))
  have E2 := Lib.hid LV
  have E3 := Lib.hid TO
  have E4 := Lib.hid AG
  have E5 := Lib.hid WN
  have E6 := Lib.hid WH
  clear hT hV hK hW LV TO KG AG AZ WN WH
  have L2 : Slc (w1.alloc (.cells #[.int .i64 x, .int .i64 y, .int .i64 z] 2)) (some ⟨w1.heap.size, 0, none⟩) 3 (three x y z) := by
    intro i hi
    obtain rfl | rfl | rfl : i = 0 ∨ i = 1 ∨ i = 2 := by omega
    · exact ⟨_, _, rfl, by simp [go_sem, three]⟩
    · exact ⟨_, _, rfl, by simp [go_sem, three]⟩
    · exact ⟨_, _, rfl, by simp [go_sem, three]⟩
  have P2 := Lib.hid (P1.alloc (.cells #[.int .i64 x, .int .i64 y, .int .i64 z] 2))
  have B2 := Lib.hid (B1.out.alloc B1.out.size (.cells #[.int .i64 x, .int .i64 y, .int .i64 z] 2))
  have WT := swith_any S a _ 3 3 (three x y z) _ (by omega) (by omega) (by decide) L2
  rw [E1.out.1] at WT
  have WT := Lib.hid WT
  clear L2
  go_upto_region 6 with (first | (refine wpList_load_row rfl 27 _ rfl (w.heap.size) rfl 27 _ (0, 0) _ (P1) Try.underlying27 rfl (ist.trans (by rw [arrv_size])) ?_) | (go_at_call 11; (refine WT.out.mono ?_); rintro e w3 ⟨rfl, hb3⟩; have P3 := Lib.hid (P2.out.below hb3); have B3 := Lib.hid (Below.after B2.out hb3); have R3 : Blk (w3.alloc (.cells #[.int .i64 0, .int .i64 0, .int .i64 0, .int .i64 0, .int .i64 0, .int .i64 0, .int .i64 0, .int .i64 0, .int .i64 0, .int .i64 0, .int .i64 0, .int .i64 0, .int .i64 0, .int .i64 0, .int .i64 0, .int .i64 0, .int .i64 0, .int .i64 0, .int .i64 0, .int .i64 0, .int .i64 0, .int .i64 0, .int .i64 0, .int .i64 0] 27)) w3.heap.size 27 24 (fun _ => 0) := (by rw [zvec24]; exact Blk.new _ _ 24 _); clear hb3) | (refine wpList_store_row rfl 27 _ _ rfl (w3.heap.size) _ rfl rfl 27 _ (R3) (ist.trans (by rw [arrv_size])) (by rw [arrv_size, arrv_size]) (oneCell_arrv _ _) ?_))
  obtain ⟨w4, hw4⟩ : ∃ x, x = (w3.alloc (.cells #[.int .i64 0, .int .i64 0, .int .i64 0, .int .i64 0, .int .i64 0, .int .i64 0, .int .i64 0, .int .i64 0, .int .i64 0, .int .i64 0, .int .i64 0, .int .i64 0, .int .i64 0, .int .i64 0, .int .i64 0, .int .i64 0, .int .i64 0, .int .i64 0, .int .i64 0, .int .i64 0, .int .i64 0, .int .i64 0, .int .i64 0, .int .i64 0] 27)).setRow w3.heap.size (arrv 24 T) := ⟨_, rfl⟩
  rw [← hw4]
  obtain ⟨T4, MB4⟩ := st_made w3 T w4 hw4
  have P4 := Lib.hid (P3.out.below MB4)
  have B4 := Lib.hid (Below.after B3.out MB4)
  obtain ⟨tb, htb⟩ : ∃ x, w3.heap.size = x := ⟨_, rfl⟩
  rw [htb] at T4 ⊢
  have PT := part_any T a w4 (by omega) (by omega)
  rw [E1.out.2.1] at PT
  have PT := Lib.hid PT
  clear hw4 htb R3 MB4 P3 B3 WT P2 B2 P1 B1
  go_upto_region 7 with (first | (refine wpList_load_row rfl 27 _ rfl (tb) rfl 27 _ (0, 0) _ (T4) Try.underlying27 rfl (ist.trans (by rw [arrv_size])) ?_) | (go_at_call 10; (refine PT.out.mono ?_); rintro e w5 ⟨rfl, hb5⟩; have P5 := Lib.hid (P4.out.below hb5); have T5 := Lib.hid (T4.below hb5); have B5 := Lib.hid (Below.after B4.out hb5); have R5 : Blk (w5.alloc (.cells #[.int .i64 0, .int .i64 0, .int .i64 0] 32)) w5.heap.size 32 3 (fun _ => 0) := (by rw [zv3]; exact Blk.new _ _ 3 _); clear hb5) | (refine wpList_store_row rfl 32 _ _ rfl (w5.heap.size) _ rfl rfl 32 _ (R5) (iv3.trans (by rw [arrv_size])) (by rw [arrv_size, arrv_size]) (oneCell_arrv _ _) ?_))
  obtain ⟨w6, hw6⟩ : ∃ x, x = (w5.alloc (.cells #[.int .i64 0, .int .i64 0, .int .i64 0] 32)).setRow w5.heap.size (arrv 3 V) := ⟨_, rfl⟩
  rw [← hw6]
  obtain ⟨V6, MB6⟩ := Blk.made (T := 32) zv3 V hw6
  have P6 := Lib.hid (P5.out.below MB6)
  have T6 := Lib.hid (T5.out.below MB6)
  have B6 := Lib.hid (Below.after B5.out MB6)
  obtain ⟨vb, hvb⟩ : ∃ x, w5.heap.size = x := ⟨_, rfl⟩
  rw [hvb] at V6 ⊢
  have V6 := Lib.hid V6
  clear hw6 hvb R5 MB6 P5 T5 B5 PT P4 T4 B4
  go_wp2_with fail
  go_loopw [13] (fun i wr => ∃ k : Nat, k ≤ 24 ∧ i = .int .i64 k ∧ Hid (Below w.heap.size w wr ∧ Blk wr w.heap.size 27 24 S ∧ Blk wr tb 27 24 T ∧ Blk wr vb 32 3 V)) (fun i _ => 24 - (intOf i).toNat)
  case atStart => exact ⟨0, by omega, rfl, B6.out, P6.out, T6.out, V6.out⟩
  case round =>
    obtain ⟨k, hk, rfl, R⟩ := hrel
    by_cases hlt : k < 24
    · have e1 : decide ((k : Int) < 24) = true := by simp; omega
      have s0 := R.out.2.1.cell (i := k) hlt
      have t0 := R.out.2.2.1.cell (i := k) hlt
      have RD : ∀ n, Hid (Below w.heap.size w (wr.drewN n) ∧ Blk (wr.drewN n) w.heap.size 27 24 S ∧ Blk (wr.drewN n) tb 27 24 T ∧ Blk (wr.drewN n) vb 32 3 V) := fun n => Lib.hid ⟨below_drewN R.out.1 n, R.out.2⟩
      have RD := Lib.hid RD
      obtain ⟨SV, hSV⟩ : ∃ x, S k = x := ⟨_, rfl⟩
      obtain ⟨TV, hTV⟩ : ∃ x, T k = x := ⟨_, rfl⟩
      have k0 : (0 : Int) ≤ (k : Int) := Int.natCast_nonneg _
      have k1 : (k : Int) < 24 := by omega
      by_cases h1 : (k : Int) < a
      · have e2 : decide ((k : Int) < a) = true := by simpa using h1
        rw [E3.out k (.inl h1)] at t0
        rw [hSV] at s0 t0
        clear hSV hTV
        go_upto_region 10 with fail
        go_quiet (fail)
        (try clear hHeld)
        go_wp2_with fail
        go_roundw
        case rel => exact ⟨k + 1, by omega, by go_num, RD.out _⟩
        case measure => simp [intOf]; omega
      · by_cases h2 : a + 2 < (k : Int)
        · have e2 : decide ((k : Int) < a) = false := by simpa using h1
          have e3 : decide (a + 2 < (k : Int)) = true := by simpa using h2
          rw [E3.out k (.inr h2)] at t0
          rw [hSV] at s0 t0
          clear hSV hTV
          go_upto_region 10 with fail
          go_quiet (fail)
          (try clear hHeld)
          go_wp2_with fail
          go_roundw
          case rel => exact ⟨k + 1, by omega, by go_num, RD.out _⟩
          case measure => simp [intOf]; omega
        · have e2 : decide ((k : Int) < a) = false := by simpa using h1
          have e3 : decide (a + 2 < (k : Int)) = false := by simpa using h2
          rw [hSV] at s0
          rw [hTV] at t0
          clear hSV hTV
          go_upto_region 10 with fail
          go_quiet (fail)
          (try clear hHeld)
          go_wp2_with fail
          go_roundw
          case rel => exact ⟨k + 1, by omega, by go_num, RD.out _⟩
          case measure => simp [intOf]; omega
    · have hk24 : k = 24 := by omega
      subst hk24
      rw [show ((24 : Nat) : Int) = 24 from rfl]
      clear hlt hk P6 T6 B6 V6
      obtain ⟨B7, P7, T7, V7⟩ := R.out
      obtain ⟨bc, hbc⟩ : ∃ x, wr.heap.size = x := ⟨_, rfl⟩
      have hbp : w.heap.size < bc := by rw [← hbc]; exact P7.lt
      have htl : tb < bc := by rw [← hbc]; exact T7.lt
      have hvl : vb < bc := by rw [← hbc]; exact V7.lt
      have F8 : Flg (wr.alloc (.cells #[.bool false] 25)) bc false := by rw [← hbc]; exact Flg.new wr false
      have P8 := Lib.hid (P7.alloc (.cells #[.bool false] 25))
      have T8 := T7.alloc (.cells #[.bool false] 25)
      have V8 := Lib.hid (V7.alloc (.cells #[.bool false] 25))
      have B8 := Lib.hid (B7.alloc B7.size (.cells #[.bool false] 25))
      have F8 := Lib.hid F8
      have HBC := Lib.hid hbc
      clear B7 P7 T7 V7 R hbc
      go_upto_region 13 with fail
      (try rw [HBC.out])
      generalize wr.alloc (.cells #[.bool false] 25) = W8 at *
      clear HBC
      have KP := keep_any ⟨bc, 0, none⟩ false T W8 F8.out.cell F8.out.free
      rw [E1.out.2.2.1] at KP
      have KP := Lib.hid KP
      go_upto_region 14 with (first | (refine wpList_load_row rfl 27 _ rfl (tb) rfl 27 _ (0, 0) _ (T8) Try.underlying27 rfl (ist.trans (by rw [arrv_size])) ?_) | (go_at_call 8; (refine KP.out.mono ?_); rintro e w9 ⟨rfl, hu9⟩; have P9 := Lib.hid (P8.out.upd hu9 (by show w.heap.size ≠ bc; omega)); have T9 := Lib.hid (T8.upd hu9 (by show tb ≠ bc; omega)); have V9 := Lib.hid (V8.out.upd hu9 (by show vb ≠ bc; omega)); have B9 := Lib.hid (own_upd B8.out (by show w.heap.size ≤ bc; omega) hu9); have R9 : Blk (w9.alloc (.cells #[.int .i64 0, .int .i64 0, .int .i64 0, .int .i64 0, .int .i64 0, .int .i64 0, .int .i64 0, .int .i64 0, .int .i64 0, .int .i64 0, .int .i64 0, .int .i64 0, .int .i64 0, .int .i64 0, .int .i64 0, .int .i64 0, .int .i64 0, .int .i64 0, .int .i64 0, .int .i64 0, .int .i64 0, .int .i64 0, .int .i64 0, .int .i64 0] 27)) w9.heap.size 27 24 (fun _ => 0) := (by rw [zvec24]; exact Blk.new _ _ 24 _); clear hu9) | (refine wpList_store_row rfl 27 _ _ rfl (w9.heap.size) _ rfl rfl 27 _ (R9) (ist.trans (by rw [arrv_size])) (by rw [arrv_size, arrv_size]) (oneCell_arrv _ _) ?_))
      obtain ⟨w10, hw10⟩ : ∃ x, x = (w9.alloc (.cells #[.int .i64 0, .int .i64 0, .int .i64 0, .int .i64 0, .int .i64 0, .int .i64 0, .int .i64 0, .int .i64 0, .int .i64 0, .int .i64 0, .int .i64 0, .int .i64 0, .int .i64 0, .int .i64 0, .int .i64 0, .int .i64 0, .int .i64 0, .int .i64 0, .int .i64 0, .int .i64 0, .int .i64 0, .int .i64 0, .int .i64 0, .int .i64 0] 27)).setRow w9.heap.size (arrv 24 Kk) := ⟨_, rfl⟩
      rw [← hw10]
      obtain ⟨K10, MB10⟩ := st_made w9 Kk w10 hw10
      have P10 := P9.out.below MB10
      have T10 := T9.out.below MB10
      have V10 := V9.out.below MB10
      have B10 := Below.after B9.out MB10
      obtain ⟨kb, hkb⟩ : ∃ x, w9.heap.size = x := ⟨_, rfl⟩
      rw [hkb] at K10 ⊢
      obtain ⟨be, hbe⟩ : ∃ x, w10.heap.size = x := ⟨_, rfl⟩
      have hpe : w.heap.size < be := by rw [← hbe]; exact P10.lt
      have hte : tb < be := by rw [← hbe]; exact T10.lt
      have hve : vb < be := by rw [← hbe]; exact V10.lt
      have hke : kb < be := by rw [← hbe]; exact K10.lt
      have F11 : Flg (w10.alloc (.cells #[.bool false] 25)) be false := by rw [← hbe]; exact Flg.new w10 false
      have F11 := Lib.hid F11
      have P11 := Lib.hid (P10.alloc (.cells #[.bool false] 25))
      have T11 := Lib.hid (T10.alloc (.cells #[.bool false] 25))
      have V11 := Lib.hid (V10.alloc (.cells #[.bool false] 25))
      have K11 := K10.alloc (.cells #[.bool false] 25)
      have B11 := Lib.hid (B10.alloc B10.size (.cells #[.bool false] 25))
      have HBE := Lib.hid hbe
      clear hw10 hkb hbe R9 MB10 P9 T9 V9 B9 P10 T10 V10 K10 B10 KP T8 P8 V8 B8 F8
      go_upto_region 15 with fail
      (try rw [HBE.out])
      generalize w10.alloc (.cells #[.bool false] 25) = W11 at *
      clear HBE
      have DB : Blk (W11.alloc (.cells (arrv 24 zeS) 26)) W11.heap.size 26 (24 * 1) zeS := Blk.new _ _ 24 _
      have F12 := Lib.hid (F11.out.alloc (.cells (arrv 24 zeS) 26))
      have P12 := Lib.hid (P11.out.alloc (.cells (arrv 24 zeS) 26))
      have T12 := Lib.hid (T11.out.alloc (.cells (arrv 24 zeS) 26))
      have V12 := Lib.hid (V11.out.alloc (.cells (arrv 24 zeS) 26))
      have K12 := Lib.hid (K11.alloc (.cells (arrv 24 zeS) 26))
      have B12 := Lib.hid (B11.out.alloc B11.out.size (.cells (arrv 24 zeS) 26))
      have A12 := sadd_any ⟨be, 0, none⟩ false Kk zeS W11.heap.size 1 1 _ F12.out.cell F12.out.free (by decide) (by decide) DB
      rw [E1.out.2.2.2, E6.out] at A12
      have A12 := Lib.hid A12
      clear DB
      go_upto_region 16 with (first | (refine wpList_load_row rfl 27 _ rfl (kb) rfl 27 _ (0, 0) _ (K11) Try.underlying27 rfl (ist.trans (by rw [arrv_size])) ?_) | (go_at_call 12; (rw [ze24]); (refine A12.out.mono ?_); rintro e w13 ⟨rfl, hu13⟩; replace hu13 : Upd ⟨be, 0, none⟩ false _ w13 := hu13; have F13 := Lib.hid (F12.out.hit hu13); have P13 := Lib.hid (P12.out.upd hu13 (by show w.heap.size ≠ be; omega)); have T13 := Lib.hid (T12.out.upd hu13 (by show tb ≠ be; omega)); have V13 := Lib.hid (V12.out.upd hu13 (by show vb ≠ be; omega)); have K13 := Lib.hid (K12.out.upd hu13 (by show kb ≠ be; omega)); have B13 := Lib.hid (own_upd B12.out (by show w.heap.size ≤ be; omega) hu13); have R13 : Blk (w13.alloc (.cells #[.int .i64 0, .int .i64 0, .int .i64 0, .int .i64 0, .int .i64 0, .int .i64 0, .int .i64 0, .int .i64 0, .int .i64 0, .int .i64 0, .int .i64 0, .int .i64 0, .int .i64 0, .int .i64 0, .int .i64 0, .int .i64 0, .int .i64 0, .int .i64 0, .int .i64 0, .int .i64 0, .int .i64 0, .int .i64 0, .int .i64 0, .int .i64 0] 27)) w13.heap.size 27 24 (fun _ => 0) := (by rw [zvec24]; exact Blk.new _ _ 24 _); clear hu13) | (refine wpList_store_row rfl 27 _ _ rfl (w13.heap.size) _ rfl rfl 27 _ (R13) (ist.trans (by rw [arrv_size])) (by rw [arrv_size, arrv_size]) (oneCell_arrv _ _) ?_))
      obtain ⟨w14, hw14⟩ : ∃ x, x = (w13.alloc (.cells #[.int .i64 0, .int .i64 0, .int .i64 0, .int .i64 0, .int .i64 0, .int .i64 0, .int .i64 0, .int .i64 0, .int .i64 0, .int .i64 0, .int .i64 0, .int .i64 0, .int .i64 0, .int .i64 0, .int .i64 0, .int .i64 0, .int .i64 0, .int .i64 0, .int .i64 0, .int .i64 0, .int .i64 0, .int .i64 0, .int .i64 0, .int .i64 0] 27)).setRow w13.heap.size (arrv 24 Ww) := ⟨_, rfl⟩
      rw [← hw14]
      obtain ⟨W14, MB14⟩ := st_made w13 Ww w14 hw14
      obtain ⟨wb, hwb⟩ : ∃ x, w13.heap.size = x := ⟨_, rfl⟩
      rw [hwb] at W14 ⊢
      have R14 : Hid (PaR tb vb kb wb be S T V Kk Ww w w14) := Lib.hid ⟨Below.after B13.out MB14, F13.out.below MB14, P13.out.below MB14, T13.out.below MB14, V13.out.below MB14, K13.out.below MB14, W14⟩
      clear hw14 hwb R13 MB14 F13 P13 T13 V13 K13 B13 W14 A12 F12 P12 T12 V12 K12 B12 F11 P11 T11 V11 K11 B11
      go_wp2_with fail
      go_loopw [18] (fun i wr => ∃ k : Nat, k ≤ 20 ∧ i = .int .i64 (4 + (k : Int)) ∧ Hid (PaR tb vb kb wb be S T V Kk Ww w wr)) (fun i _ => 24 - (intOf i).toNat)
      case atStart => exact ⟨0, by omega, rfl, R14.out⟩
      case round =>
        obtain ⟨k, hk, rfl, R⟩ := hrel
        by_cases hlt : k < 20
        · have e1 : decide (4 + (k : Int) < 24) = true := by simp; omega
          have k0 := R.out.k.cell (i := 4 + k) (by omega)
          have w0 := R.out.ww.cell (i := 4 + k) (by omega)
          rw [E5.out (4 + k) (by omega) (by omega)] at w0
          obtain ⟨KV, hKV⟩ : ∃ x, Kk (4 + k) = x := ⟨_, rfl⟩
          rw [hKV] at k0 w0
          have i0 : (0 : Int) ≤ 4 + (k : Int) := by omega
          have i1 : 4 + (k : Int) < 24 := by omega
          have i2 : (4 + (k : Int)).toNat = 4 + k := by omega
          have RD : Hid (∀ n, PaR tb vb kb wb be S T V Kk Ww w (wr.drewN n)) := Lib.hid fun n => ⟨below_drewN R.out.below n, R.out.flg, R.out.s, R.out.t, R.out.v, R.out.k, R.out.ww⟩
          clear hKV
          go_upto_region 19 with fail
          go_quiet (fail)
          (try clear hHeld)
          go_wp2_with fail
          go_roundw
          case rel => exact ⟨k + 1, by omega, by congr 1 <;> omega, RD.out _⟩
          case measure => simp [intOf]; omega
        · have hk20 : k = 20 := by omega
          subst hk20
          rw [show (4 + ((20 : Nat) : Int)) = 24 from rfl]
          have v0 := R.out.v.cell (i := 0) (by decide)
          have v1 := R.out.v.cell (i := 1) (by decide)
          have v2 := R.out.v.cell (i := 2) (by decide)
          rw [E2.out.1] at v0
          rw [E2.out.2.1] at v1
          rw [E2.out.2.2] at v2
          have WB := R.out.ww
          clear hlt hk R14
          go_upto_region 21 with fail
          refine wp_region_lit ?_
          refine wpList_val (v := ?_) rfl ?_ ?_
          rotate_left
          · (go_simp; (try (first | with_reducible rfl | (constructor <;> with_reducible rfl))))
          (try simp only [Act.put, List.setIfInBounds_toArray, List.set_cons_zero, List.set_cons_succ])
          refine wpList_val (v := ?_) rfl ?_ ?_
          rotate_left
          · (go_simp; (try (first | with_reducible rfl | (constructor <;> with_reducible rfl))))
          (try simp only [Act.put, List.setIfInBounds_toArray, List.set_cons_zero, List.set_cons_succ])
          refine wpList_val (v := ?_) rfl ?_ ?_
          rotate_left
          · (go_simp; (try (first | with_reducible rfl | (constructor <;> with_reducible rfl))))
          (try simp only [Act.put, List.setIfInBounds_toArray, List.set_cons_zero, List.set_cons_succ])
          refine wpList_val (v := ?_) rfl ?_ ?_
          rotate_left
          · (go_simp; (try (first | with_reducible rfl | (constructor <;> with_reducible rfl))))
          (try simp only [Act.put, List.setIfInBounds_toArray, List.set_cons_zero, List.set_cons_succ])
          refine wpList_val (v := ?_) rfl ?_ ?_
          rotate_left
          · (go_simp; (try (first | with_reducible rfl | (constructor <;> with_reducible rfl))))
          (try simp only [Act.put, List.setIfInBounds_toArray, List.set_cons_zero, List.set_cons_succ])
          first | (refine wpList_val (v := ?_) (by rfl) ?_ ?_; rotate_left; focus ((go_simp; (try (first | with_reducible rfl | (constructor <;> with_reducible rfl)))))) | refine wpList_skip (by rfl) ?_
          (try simp only [Act.put, List.setIfInBounds_toArray, List.set_cons_zero, List.set_cons_succ])
          first | (refine wpList_val (v := ?_) (by rfl) ?_ ?_; rotate_left; focus ((go_simp; (try (first | with_reducible rfl | (constructor <;> with_reducible rfl)))))) | refine wpList_skip (by rfl) ?_
          (try simp only [Act.put, List.setIfInBounds_toArray, List.set_cons_zero, List.set_cons_succ])
          first | (refine wpList_val (v := ?_) (by rfl) ?_ ?_; rotate_left; focus ((go_simp; (try (first | with_reducible rfl | (constructor <;> with_reducible rfl)))))) | refine wpList_skip (by rfl) ?_
          (try simp only [Act.put, List.setIfInBounds_toArray, List.set_cons_zero, List.set_cons_succ])
          first | (refine wpList_val (v := ?_) (by rfl) ?_ ?_; rotate_left; focus ((go_simp; (try (first | with_reducible rfl | (constructor <;> with_reducible rfl)))))) | refine wpList_skip (by rfl) ?_
          (try simp only [Act.put, List.setIfInBounds_toArray, List.set_cons_zero, List.set_cons_succ])
          refine wpList_val (v := ?_) rfl ?_ ?_
          rotate_left
          · (go_simp; (try (first | with_reducible rfl | (constructor <;> with_reducible rfl))))
          (try simp only [Act.put, List.setIfInBounds_toArray, List.set_cons_zero, List.set_cons_succ])
          refine wpList_val (v := ?_) rfl ?_ ?_
          rotate_left
          · (go_simp; (try (first | with_reducible rfl | (constructor <;> with_reducible rfl))))
          (try simp only [Act.put, List.setIfInBounds_toArray, List.set_cons_zero, List.set_cons_succ])
          first | (refine wpList_val (v := ?_) (by rfl) ?_ ?_; rotate_left; focus ((go_simp; (try (first | with_reducible rfl | (constructor <;> with_reducible rfl)))))) | refine wpList_skip (by rfl) ?_
          (try simp only [Act.put, List.setIfInBounds_toArray, List.set_cons_zero, List.set_cons_succ])
          first | (refine wpList_val (v := ?_) (by rfl) ?_ ?_; rotate_left; focus ((go_simp; (try (first | with_reducible rfl | (constructor <;> with_reducible rfl)))))) | refine wpList_skip (by rfl) ?_
          (try simp only [Act.put, List.setIfInBounds_toArray, List.set_cons_zero, List.set_cons_succ])
          first | (refine wpList_val (v := ?_) (by rfl) ?_ ?_; rotate_left; focus ((go_simp; (try (first | with_reducible rfl | (constructor <;> with_reducible rfl)))))) | refine wpList_skip (by rfl) ?_
          (try simp only [Act.put, List.setIfInBounds_toArray, List.set_cons_zero, List.set_cons_succ])
          first | (refine wpList_val (v := ?_) (by rfl) ?_ ?_; rotate_left; focus ((go_simp; (try (first | with_reducible rfl | (constructor <;> with_reducible rfl)))))) | refine wpList_skip (by rfl) ?_
          (try simp only [Act.put, List.setIfInBounds_toArray, List.set_cons_zero, List.set_cons_succ])
          refine wpList_val (v := ?_) rfl ?_ ?_
          rotate_left
          · (go_simp; (try (first | with_reducible rfl | (constructor <;> with_reducible rfl))))
          (try simp only [Act.put, List.setIfInBounds_toArray, List.set_cons_zero, List.set_cons_succ])
          refine wpList_val (v := ?_) rfl ?_ ?_
          rotate_left
          · (go_simp; (try (first | with_reducible rfl | (constructor <;> with_reducible rfl))))
          (try simp only [Act.put, List.setIfInBounds_toArray, List.set_cons_zero, List.set_cons_succ])
          first | (refine wpList_val (v := ?_) (by rfl) ?_ ?_; rotate_left; focus (refine Eq.trans (run_load_row 27 (.tmp 17) (by rfl) (wb) (by rfl) _ _ _ _ (WB) Try.underlying27 rfl (ist.trans (by rw [arrv_size]))) ?_; with_reducible rfl)) | refine wpList_skip (by rfl) ?_
          (try simp only [Act.put, List.setIfInBounds_toArray, List.set_cons_zero, List.set_cons_succ])
          refine wpList_step (fun K hK => ?_)
          go_simp
          (refine (sgood_any Ww _).mono ?_); rintro e w15 ⟨rfl, hb15⟩; (rw [E4.out]); have R15 := Lib.hid (R.out.down hb15); have f15 := R15.out.flg.cell; clear hb15
          (try dsimp only)
          (try simp only [Act.put, List.setIfInBounds_toArray, List.set_cons_zero, List.set_cons_succ])
          refine hK _ _ ?_
          clear hK K
          refine wpList_val (v := ?_) rfl ?_ ?_
          rotate_left
          · (go_simp; (try (first | with_reducible rfl | (constructor <;> with_reducible rfl))))
          (try simp only [Act.put, List.setIfInBounds_toArray, List.set_cons_zero, List.set_cons_succ])
          refine wpList_val (v := ?_) rfl ?_ ?_
          rotate_left
          · (go_simp; (try (first | with_reducible rfl | (constructor <;> with_reducible rfl))))
          (try simp only [Act.put, List.setIfInBounds_toArray, List.set_cons_zero, List.set_cons_succ])
          first | (refine wpList_val (v := ?_) (by rfl) ?_ ?_; rotate_left; focus ((go_simp; (try (first | with_reducible rfl | (constructor <;> with_reducible rfl)))))) | refine wpList_skip (by rfl) ?_
          (try simp only [Act.put, List.setIfInBounds_toArray, List.set_cons_zero, List.set_cons_succ])
          first | (refine wpList_val (v := ?_) (by rfl) ?_ ?_; rotate_left; focus ((go_simp; (try (first | with_reducible rfl | (constructor <;> with_reducible rfl)))))) | refine wpList_skip (by rfl) ?_
          (try simp only [Act.put, List.setIfInBounds_toArray, List.set_cons_zero, List.set_cons_succ])
          first | (refine wpList_val (v := ?_) (by rfl) ?_ ?_; rotate_left; focus ((go_simp; (try (first | with_reducible rfl | (constructor <;> with_reducible rfl)))))) | refine wpList_skip (by rfl) ?_
          (try simp only [Act.put, List.setIfInBounds_toArray, List.set_cons_zero, List.set_cons_succ])
          first | (refine wpList_val (v := ?_) (by rfl) ?_ ?_; rotate_left; focus ((go_simp; (try (first | with_reducible rfl | (constructor <;> with_reducible rfl)))))) | refine wpList_skip (by rfl) ?_
          (try simp only [Act.put, List.setIfInBounds_toArray, List.set_cons_zero, List.set_cons_succ])
          first | (refine wpList_val (v := ?_) (by rfl) ?_ ?_; rotate_left; focus ((go_simp; (try (first | with_reducible rfl | (constructor <;> with_reducible rfl)))))) | refine wpList_skip (by rfl) ?_
          (try simp only [Act.put, List.setIfInBounds_toArray, List.set_cons_zero, List.set_cons_succ])
          refine wpList_val (v := ?_) rfl ?_ ?_
          rotate_left
          · (go_simp; (try (first | with_reducible rfl | (constructor <;> with_reducible rfl))))
          (try simp only [Act.put, List.setIfInBounds_toArray, List.set_cons_zero, List.set_cons_succ])
          refine wpList_val (v := ?_) rfl ?_ ?_
          rotate_left
          · (go_simp; (try (first | with_reducible rfl | (constructor <;> with_reducible rfl))))
          (try simp only [Act.put, List.setIfInBounds_toArray, List.set_cons_zero, List.set_cons_succ])
          refine wpList_nil ?_
          go_wp2_with fail
          go_ret
          exact ⟨rfl, R15.out.below⟩
theorem parts_walk (S : Nat → Int) (a x y z : Int) (w : World) :
    Calls Try.prog 5 #[.agg (arrv 24 S), .int .i64 a, .int .i64 x, .int .i64 y, .int .i64 z] w fun e w' => e = .returned (.bool true) ∧ Below w.heap.size w w' := by
  have B0 : Below w.heap.size w (w.alloc (.cells (arrv 24 S) 27)) := by (repeat (first | with_reducible exact Below.refl _ _ | with_reducible apply Below.drew | (with_reducible refine below_drewN ?_ _) | (with_reducible refine Below.alloc ?_ (by (try simp) <;> omega) _) | (with_reducible refine Below.setCell ?_ (by (try simp) <;> omega) _)))
  have B0 := Lib.hid B0
  by_cases h1 : a < 0
  · have d1 : decide (a < 0) = true := by simpa using h1
    go_enter Try.func5, Try.ntmps5
    go_upto_region 1 with fail
    generalize w.alloc (.cells (arrv 24 S) 27) = W0 at *
    go_wp2_with (go_at_call 7; (refine (awake15_any _).mono ?_); rintro e w1 ⟨rfl, hb1⟩; have B1 := Lib.hid (Below.after B0.out hb1); clear hb1)
    go_ret
    exact ⟨rfl, B1.out⟩
  · by_cases h2 : 21 < a
    · have d1 : decide (a < 0) = false := by simpa using h1
      have d2 : decide (21 < a) = true := by simpa using h2
      go_enter Try.func5, Try.ntmps5
      go_upto_region 1 with fail
      generalize w.alloc (.cells (arrv 24 S) 27) = W0 at *
      go_wp2_with (go_at_call 7; (refine (awake15_any _).mono ?_); rintro e w1 ⟨rfl, hb1⟩; have B1 := Lib.hid (Below.after B0.out hb1); clear hb1)
      go_ret
      exact ⟨rfl, B1.out⟩
    · exact parts_in S a x y z w (by omega) (by omega)
end Go.Proofs.Ytcbklolfibdffaa
