/- Contracts of the program's functions and plain laws, part 8: they hold for all arguments. -/
import Derived.Test.YtgfklheepkgedaaGreatQ04
import Derived.Test.YtgfklheepkgedaaGreatQ07
import Derived.Test.YtgfklheepkgedaaGreatQ05
import Derived.Test.YtgfklheepkgedaaGreatQ03
import Derived.Test.YtgfklheepkgedaaGreatQ06
/- Sines and cosines as the program's numbers. No program. -/
namespace Go.Proofs.YtgfklheepkgedaaGreat
def wrpV (a : Int) : Int := if 3373259426 < a.tmod 6746518852 then a.tmod 6746518852 - 6746518852 else if a.tmod 6746518852 ≤ -3373259426 then a.tmod 6746518852 + 6746518852 else a.tmod 6746518852
theorem tmod_bd (a : Int) : -6746518852 < a.tmod 6746518852 ∧ a.tmod 6746518852 < 6746518852 := by
  have := Int.tmod_lt_of_pos a (show (0 : Int) < 6746518852 by decide)
  have := Int.tmod_lt_of_pos (-a) (show (0 : Int) < 6746518852 by decide)
  rw [Int.neg_tmod] at this
  omega
theorem wrpV_bd (a : Int) : -3373259426 < wrpV a ∧ wrpV a ≤ 3373259426 := by
  have := tmod_bd a
  unfold wrpV
  split
  · omega
  · split <;> omega
/-- Folded into the quarters round nought. -/
def fldV (w : Int) : Int := if 1686629713 < w then 3373259426 - w else if w < -1686629713 then -3373259426 - w else w
theorem fldV_bd {w : Int} (h : -3373259426 < w) (h2 : w ≤ 3373259426) : -1686629713 ≤ fldV w ∧ fldV w ≤ 1686629713 := by
  unfold fldV
  split
  · omega
  · split <;> omega
def serV (z : Int) (L : Nat → Int) : Nat → Int | 0 => L 0 | k + 1 => addV (L (k + 1)) (mulV z (serV z L k) 30)
def serH (z : Int) (L : Nat → Int) : Nat → Bool | 0 => false | k + 1 => serH z L k || mulH z (serV z L k) 30 || addH (L (k + 1)) (mulV z (serV z L k) 30)
def sinL : Nat → Int | 0 => -27 | 1 => 2959 | 2 => -213044 | 3 => 8947849 | 4 => -178956971 | _ => 1073741824
def cosL : Nat → Int | 0 => 2 | 1 => -296 | 2 => 26631 | 3 => -1491308 | 4 => 44739243 | 5 => -536870912 | _ => 1073741824
/-- The sine of a small angle; the cosine of one; of an angle in the quarters round nought. -/
def sn1V (w : Int) : Int := mulV w (serV (mulV w w 30) sinL 5) 30
def sn1H (w : Int) : Bool := mulH w w 30 || serH (mulV w w 30) sinL 5 || mulH w (serV (mulV w w 30) sinL 5) 30
def cs1V (x : Int) : Int := serV (mulV x x 30) cosL 6
def cs1H (x : Int) : Bool := mulH x x 30 || serH (mulV x x 30) cosL 6
def qrtV (w : Int) : Int := if absV w ≤ 843314857 then sn1V w else if w < 0 then -cs1V (1686629713 - absV w) else cs1V (1686629713 - absV w)
def qrtH (w : Int) : Bool := if absV w ≤ 843314857 then sn1H w else cs1H (1686629713 - absV w)
def oneC (s : Int) : Int := min (max s (-1073741824)) 1073741824
def sinV (a : Int) : Int := oneC (qrtV (fldV (wrpV (satV a))))
def sinH (a : Int) : Bool := satH a || qrtH (fldV (wrpV (satV a)))
def cosV (a : Int) : Int := sinV (1686629713 + wrpV a)
def cosH (a : Int) : Bool := sinH (1686629713 + wrpV a)
theorem addV_bd (a b : Int) : -1152921504606846976 ≤ addV a b ∧ addV a b ≤ 1152921504606846976 := satV_bd _
theorem cs1V_bd (x : Int) : -1152921504606846976 ≤ cs1V x ∧ cs1V x ≤ 1152921504606846976 := addV_bd _ _
end Go.Proofs.YtgfklheepkgedaaGreat
/- Contracts of package trig: Wrap, m, series, Sin, Cos. -/
namespace Go.Proofs.YtgfklheepkgedaaGreat
open Go.RowKit
set_option maxRecDepth 100000
theorem wrap_any (a : Int) (w : World) : Calls Tryz.prog 44 #[.int .i64 a] w fun e w' => e = .returned (.int .i64 (wrpV a)) ∧ w = w' := by
  have b := tmod_bd a
  have e0 : IntKind.i64.wrap (a.tmod 6746518852) = a.tmod 6746518852 := IntWalk.i64_in _ (by omega)
  have EV := Lib.hid (show wrpV a = if 3373259426 < a.tmod 6746518852 then a.tmod 6746518852 - 6746518852 else if a.tmod 6746518852 ≤ -3373259426 then a.tmod 6746518852 + 6746518852 else a.tmod 6746518852 from rfl)
  obtain ⟨V, hV⟩ : ∃ x, wrpV a = x := ⟨_, rfl⟩
  rw [hV] at EV ⊢
  clear hV
  obtain ⟨r, hr⟩ : ∃ x, a.tmod 6746518852 = x := ⟨_, rfl⟩
  rw [hr] at b e0 EV
  by_cases h1 : 3373259426 < r
  · have d1 : decide (3373259426 < r) = true := by simpa using h1
    have EE := Lib.hid (show V = r - 6746518852 by rw [EV.out, if_pos h1])
    have e1 : IntKind.i64.wrap (r - 6746518852) = r - 6746518852 := IntWalk.i64_in _ (by omega)
    clear EV h1 b
    go_enter Tryz.func44, Tryz.ntmps44
    go_upto_region 2 with fail
    (try simp only [hr, e0])
    go_wp2_with fail
    go_ret
    exact ⟨by rw [EE.out]; rfl, rfl⟩
  · have d1 : decide (3373259426 < r) = false := by simpa using h1
    by_cases h2 : r ≤ -3373259426
    · have d2 : decide (r ≤ -3373259426) = true := by simpa using h2
      have EE := Lib.hid (show V = r + 6746518852 by rw [EV.out, if_neg h1, if_pos h2])
      have e1 : IntKind.i64.wrap (r + 6746518852) = r + 6746518852 := IntWalk.i64_in _ (by omega)
      clear EV h1 h2 b
      go_enter Tryz.func44, Tryz.ntmps44
      go_upto_region 2 with fail
      (try simp only [hr, e0])
      go_wp2_with fail
      go_ret
      exact ⟨by rw [EE.out]; rfl, rfl⟩
    · have d2 : decide (r ≤ -3373259426) = false := by simpa using h2
      have EE := Lib.hid (show V = r by rw [EV.out, if_neg h1, if_neg h2])
      clear EV h1 h2 b
      go_enter Tryz.func44, Tryz.ntmps44
      go_upto_region 2 with fail
      (try simp only [hr, e0])
      go_wp2_with fail
      go_ret
      exact ⟨by rw [EE.out]; rfl, rfl⟩
theorem tm_any (c : Addr) (h : Bool) (a b : Int) (w : World) (hc : w.cell? c = some (.bool h)) (hf : w.frozen? c = false) :
    Calls Tryz.prog 83 #[.pointer (some c), .int .i64 a, .int .i64 b] w fun e w' => e = .returned (.int .i64 (mulV a b 30)) ∧ Upd c (h || mulH a b 30) w w' := by
  have MC := Lib.hid (fmul_any c h a b 30 w hc hf)
  clear hc hf
  go_enter Tryz.func83, Tryz.ntmps83
  go_wp2_with (go_at_call 43; (refine MC.out.mono ?_); rintro e w1 ⟨rfl, hu1⟩)
  go_ret
  exact ⟨rfl, hu1⟩
/-- A slice of numbers, above which the call may build. -/
def Lst (w : World) (pa oa n : Nat) (L : Nat → Int) : Prop := ∀ i, i < n → w.cell? ⟨pa, oa + i, none⟩ = some (.int .i64 (L i))
theorem Lst.upd {w w' : World} {pa oa n : Nat} {L : Nat → Int} {c : Addr} {h h' : Bool} (s : Lst w pa oa n L) (hc : w.cell? c = some (.bool h)) (u : Upd c h' w w') : Lst w' pa oa n L := fun i hi => by
  have k := s i hi
  rw [u.cell (World.block_lt_of_cell? w _ k) (fun e => by rw [e] at hc; rw [hc] at k; cases k), k]
theorem Lst.below {w w' : World} {pa oa n : Nat} {L : Nat → Int} (s : Lst w pa oa n L) (u : Below w.heap.size w w') : Lst w' pa oa n L := fun i hi => by
  have k := s i hi
  exact (u.cell (World.block_lt_of_cell? w _ k)).trans k
structure SeR (c : Addr) (h : Bool) (pa oa n : Nat) (L : Nat → Int) (w wr : World) : Prop where
  upd : Upd c h w wr
  lst : Lst wr pa oa n L
  cell : wr.cell? c = some (.bool h)
  free : wr.frozen? c = false
theorem SeR.upd' {c : Addr} {h h' : Bool} {pa oa n : Nat} {L : Nat → Int} {w wr w' : World} (s : SeR c h pa oa n L w wr) (u : Upd c h' wr w') : SeR c h' pa oa n L w w' :=
  ⟨s.upd.trans u, s.lst.upd s.cell u, u.cellc s.cell, (u.frozen (World.block_lt_of_cell? _ _ s.cell)).trans s.free⟩
theorem SeR.down {c : Addr} {h : Bool} {pa oa n : Nat} {L : Nat → Int} {w wr w' : World} (s : SeR c h pa oa n L w wr) (u : Below wr.heap.size wr w') : SeR c h pa oa n L w w' :=
  ⟨s.upd.then u, s.lst.below u, (u.cell (World.block_lt_of_cell? _ _ s.cell)).trans s.cell, (u.frozen (World.block_lt_of_cell? _ _ s.cell)).trans s.free⟩
set_option maxHeartbeats 4000000 in
theorem series_any (c : Addr) (h : Bool) (z : Int) (L : Nat → Int) (pa oa ca n : Nat) (w : World) (hc : w.cell? c = some (.bool h)) (hf : w.frozen? c = false) (hn0 : 1 ≤ n) (hn : n ≤ 40) (hcap : n + 1 ≤ ca)
    (hL : Lst w pa oa (n + 1) L) :
    Calls Tryz.prog 84 #[.pointer (some c), .int .i64 z, .slice (some ⟨pa, oa, none⟩) (n + 1 : Nat) ca] w fun e w' => e = .returned (.int .i64 (serV z L n)) ∧ Upd c (h || serH z L n) w w' := by
  have hcb := World.block_lt_of_cell? w c hc
  have R0 := Lib.hid (show SeR c h pa oa (n + 1) L w w from ⟨Upd.refl hc, hL, hc, hf⟩)
  have HF := Lib.hid hf
  have L0 := hL 0 (by omega)
  rw [Nat.add_zero] at L0
  clear hc hf hL
  go_enter Tryz.func84, Tryz.ntmps84
  go_upto_region 2 with fail
  have hcap2 : (1 : Int) ≤ (ca : Int) := by omega
  have hcap3 : ¬ ca = 1 := by omega
  have hn1 : (1 : Int) ≤ ((n + 1 : Nat) : Int) := by omega
  go_wp2_with fail
  go_loopw [7, 16] (fun s i wr => ∃ k : Nat, k ≤ n ∧ s = .int .i64 (serV z L k) ∧ i = .int .i64 k ∧ Hid (SeR c (h || serH z L k) pa oa (n + 1) L w wr)) (fun _ i _ => n - (intOf i).toNat)
  case atStart => exact ⟨0, by omega, rfl, rfl, by rw [show (h || serH z L 0) = h from by simp [serH]]; exact R0⟩
  case round =>
    obtain ⟨k, hk, rfl, rfl, R⟩ := hrel
    clear R0 L0
    by_cases hlt : k < n
    · have g1 : decide (k < n) = true := by simpa using hlt
      have k0 : (0 : Int) ≤ (k : Int) := Int.natCast_nonneg _
      have k1 : (k : Int) < (n : Int) := by omega
      have Lk := R.out.lst (k + 1) (by omega)
      rw [show oa + (k + 1) = oa + 1 + k by omega] at Lk
      have ES := Lib.hid (And.intro (show serV z L (k + 1) = addV (L (k + 1)) (mulV z (serV z L k) 30) from rfl) (show (h || serH z L (k + 1)) = (h || serH z L k || mulH z (serV z L k) 30 || addH (L (k + 1)) (mulV z (serV z L k) 30)) by simp [serH, Bool.or_assoc]))
      obtain ⟨LV, hLV⟩ : ∃ x, L (k + 1) = x := ⟨_, rfl⟩
      obtain ⟨S, hS⟩ : ∃ x, serV z L k = x := ⟨_, rfl⟩
      obtain ⟨H, hH⟩ : ∃ x, (h || serH z L k) = x := ⟨_, rfl⟩
      rw [hLV] at Lk
      rw [hLV, hS, hH] at ES
      rw [hH] at R
      rw [hS]
      have TC := tm_any c H z S wr R.out.cell R.out.free
      obtain ⟨M, hM⟩ : ∃ x, mulV z S 30 = x := ⟨_, rfl⟩
      obtain ⟨H2, hH2⟩ : ∃ x, (H || mulH z S 30) = x := ⟨_, rfl⟩
      rw [hM, hH2] at TC
      rw [hM, hH2] at ES
      have TC := Lib.hid TC
      clear hLV hS hH hM hH2
      go_upto_region 5 with fail
      refine wp_region_lit ?_
      refine wpList_val (v := ?_) rfl ?_ ?_
      rotate_left
      · (go_simp; (try (first | with_reducible rfl | (constructor <;> with_reducible rfl))))
      (try simp only [Act.put, nA, nB, nC])
      refine wpList_val (v := ?_) rfl ?_ ?_
      rotate_left
      · (go_simp; (try (first | with_reducible rfl | (constructor <;> with_reducible rfl))))
      (try simp only [Act.put, nA, nB, nC])
      refine wpList_val (v := ?_) rfl ?_ ?_
      rotate_left
      · (go_simp; (try (first | with_reducible rfl | (constructor <;> with_reducible rfl))))
      (try simp only [Act.put, nA, nB, nC])
      refine wpList_val (v := ?_) rfl ?_ ?_
      rotate_left
      · (go_simp; (try (first | with_reducible rfl | (constructor <;> with_reducible rfl))))
      (try simp only [Act.put, nA, nB, nC])
      refine wpList_val (v := ?_) rfl ?_ ?_
      rotate_left
      · (go_simp; (try (first | with_reducible rfl | (constructor <;> with_reducible rfl))))
      (try simp only [Act.put, nA, nB, nC])
      refine wpList_step (fun K hK => ?_)
      go_simp
      (refine TC.out.mono ?_); rintro e w1 ⟨rfl, hu1⟩; have R1 := Lib.hid (R.out.upd' hu1); clear hu1 TC R Lk
      (try dsimp only)
      (try simp only [Act.put, nA, nB, nC])
      refine hK _ _ ?_
      clear hK K
      refine wpList_act (v := ?_) (w' := ?_) rfl ?_ ?_
      rotate_left 2
      · (go_simp; (try (first | with_reducible rfl | (constructor <;> with_reducible rfl))))
      (try simp only [Act.put, nA, nB, nC])
      refine wpList_step (fun K hK => ?_)
      go_simp
      have R2 := Lib.hid (R1.out.down (Below.alloc (Below.refl _ _) (Nat.le_refl _) (.cells #[.int .i64 LV, .int .i64 M] 2))); (refine (fadd_any c H2 (two LV M) w1.heap.size 0 2 2 _ R2.out.cell R2.out.free (by decide) (by intro i hi; obtain rfl | rfl : i = 0 ∨ i = 1 := (by omega); simp [go_sem, two]; simp [go_sem, two])).mono ?_); (rw [(add2 LV M true).1, (add2 LV M _).2]); rintro e w2 ⟨rfl, hu2⟩; have R3 := Lib.hid (R2.out.upd' hu2); clear hu2 R2 R1
      (try dsimp only)
      (try simp only [Act.put, nA, nB, nC])
      refine hK _ _ ?_
      clear hK K
      refine wpList_val (v := ?_) rfl ?_ ?_
      rotate_left
      · (go_simp; (try (first | with_reducible rfl | (constructor <;> with_reducible rfl))))
      (try simp only [Act.put, nA, nB, nC])
      refine wpList_nil ?_
      go_wp2_with fail
      go_roundw
      case rel => exact ⟨k + 1, by omega, by rw [ES.out.1], by go_num, by rw [ES.out.2]; exact R3⟩
      case measure => simp [intOf]; omega
    · have hkn : k = n := by omega
      subst hkn
      have g1 : decide (k < k) = false := by simp
      go_wp2_with fail
      go_ret
      exact ⟨rfl, R.out.upd⟩
end Go.Proofs.YtgfklheepkgedaaGreat
/- Contracts of package trig (2): Sin, Cos. -/
namespace Go.Proofs.YtgfklheepkgedaaGreat
open Go.RowKit
set_option maxRecDepth 100000
structure SnR (c : Addr) (h : Bool) (w wr : World) : Prop where
  upd : Upd c h w wr
  cell : wr.cell? c = some (.bool h)
  free : wr.frozen? c = false
theorem SnR.upd' {c : Addr} {h h' : Bool} {w wr w' : World} (s : SnR c h w wr) (u : Upd c h' wr w') : SnR c h' w w' :=
  ⟨s.upd.trans u, u.cellc s.cell, (u.frozen (World.block_lt_of_cell? _ _ s.cell)).trans s.free⟩
theorem SnR.down {c : Addr} {h : Bool} {w wr w' : World} (s : SnR c h w wr) (u : Below wr.heap.size wr w') : SnR c h w w' :=
  ⟨s.upd.then u, (u.cell (World.block_lt_of_cell? _ _ s.cell)).trans s.cell, (u.frozen (World.block_lt_of_cell? _ _ s.cell)).trans s.free⟩
theorem lst_sin (w : World) (T : TypeId) : Lst (w.alloc (.cells #[.int .i64 (-27), .int .i64 2959, .int .i64 (-213044), .int .i64 8947849, .int .i64 (-178956971), .int .i64 1073741824] T)) w.heap.size 0 (5 + 1) sinL := by
  intro i hi
  obtain rfl | rfl | rfl | rfl | rfl | rfl : i = 0 ∨ i = 1 ∨ i = 2 ∨ i = 3 ∨ i = 4 ∨ i = 5 := by omega
  all_goals simp [go_sem, sinL]
theorem lst_cos (w : World) (T : TypeId) : Lst (w.alloc (.cells #[.int .i64 2, .int .i64 (-296), .int .i64 26631, .int .i64 (-1491308), .int .i64 44739243, .int .i64 (-536870912), .int .i64 1073741824] T)) w.heap.size 0 (6 + 1) cosL := by
  intro i hi
  obtain rfl | rfl | rfl | rfl | rfl | rfl | rfl : i = 0 ∨ i = 1 ∨ i = 2 ∨ i = 3 ∨ i = 4 ∨ i = 5 ∨ i = 6 := by omega
  all_goals simp [go_sem, cosL]
set_option maxHeartbeats 8000000 in
/-- Of a folded angle. -/
theorem sin_walk (c : Addr) (h : Bool) (a A r W : Int) (w : World) (hc : w.cell? c = some (.bool h)) (hf : w.frozen? c = false) (hA : satV a = A) (hr : wrpV A = r) (hW : fldV r = W) :
    Calls Tryz.prog 46 #[.pointer (some c), .int .i64 a] w fun e w' => e = .returned (.int .i64 (oneC (qrtV W))) ∧ Upd c (h || satH a || qrtH W) w w' := by
  have br := wrpV_bd A
  rw [hr] at br
  have bW := fldV_bd br.1 br.2
  rw [hW] at bW
  have hW2 := hW
  unfold fldV at hW2
  have SC := sat_upd c h a w hc hf
  rw [hA] at SC
  obtain ⟨H1, hH1⟩ : ∃ x, (h || satH a) = x := ⟨_, rfl⟩
  rw [hH1] at SC ⊢
  have SC := Lib.hid SC
  have R0 := Lib.hid (show SnR c h w w from ⟨Upd.refl hc, hc, hf⟩)
  have WC := Lib.hid (fun (x : World) => wrap_any A x)
  rw [hr] at WC
  have cs : (decide (1686629713 < r) = true ∧ IntKind.i64.wrap (3373259426 - r) = W) ∨ (decide (1686629713 < r) = false ∧ decide (r < -1686629713) = true ∧ IntKind.i64.wrap (-3373259426 - r) = W) ∨ (decide (1686629713 < r) = false ∧ decide (r < -1686629713) = false ∧ W = r) := by
    by_cases h1 : 1686629713 < r
    · rw [if_pos h1] at hW2
      exact .inl ⟨by simpa using h1, by rw [hW2]; exact IntWalk.i64_in _ (by omega)⟩
    · rw [if_neg h1] at hW2
      by_cases h2 : r < -1686629713
      · rw [if_pos h2] at hW2
        exact .inr (.inl ⟨by simpa using h1, by simpa using h2, by rw [hW2]; exact IntWalk.i64_in _ (by omega)⟩)
      · rw [if_neg h2] at hW2
        exact .inr (.inr ⟨by simpa using h1, by simpa using h2, hW2.symm⟩)
  have QE := Lib.hid (show qrtV W = (if absV W ≤ 843314857 then sn1V W else if W < 0 then -cs1V (1686629713 - absV W) else cs1V (1686629713 - absV W)) ∧ qrtH W = if absV W ≤ 843314857 then sn1H W else cs1H (1686629713 - absV W) from ⟨rfl, rfl⟩)
  have bX : 0 ≤ absV W ∧ absV W ≤ 1686629713 := by unfold absV; rw [if_neg (by omega)]; split <;> omega
  have AC := fun (x : World) => fabs_any W x
  obtain ⟨X, hX⟩ : ∃ x, absV W = x := ⟨_, rfl⟩
  rw [hX] at bX AC QE
  have AC := Lib.hid AC
  have eX : IntKind.i64.wrap (1686629713 - X) = 1686629713 - X := IntWalk.i64_in _ (by omega)
  obtain ⟨Y, hY⟩ : ∃ x, 1686629713 - X = x := ⟨_, rfl⟩
  rw [hY] at eX QE
  have HY := Lib.hid hY
  obtain ⟨V, hV⟩ : ∃ x, qrtV W = x := ⟨_, rfl⟩
  obtain ⟨HQ, hHQ⟩ : ∃ x, qrtH W = x := ⟨_, rfl⟩
  rw [hV, hHQ] at QE ⊢
  have Cbd := cs1V_bd Y
  have eC : IntKind.i64.wrap (-(cs1V Y)) = -(cs1V Y) := IntWalk.i64_in _ (by omega)
  have QF : Hid ((X ≤ 843314857 → V = sn1V W ∧ (H1 || HQ) = (H1 || mulH W W 30 || serH (mulV W W 30) sinL 5 || mulH W (serV (mulV W W 30) sinL 5) 30)) ∧ (¬ X ≤ 843314857 → (H1 || HQ) = (H1 || mulH Y Y 30 || serH (mulV Y Y 30) cosL 6) ∧ (W < 0 → V = -cs1V Y) ∧ (¬ W < 0 → V = cs1V Y))) := by
    refine Lib.hid ⟨fun hx => ?_, fun hx => ?_⟩
    · rw [QE.out.1, QE.out.2, if_pos hx, if_pos hx]; unfold sn1H; exact ⟨rfl, by simp [Bool.or_assoc]⟩
    · rw [QE.out.1, QE.out.2, if_neg hx, if_neg hx]; unfold cs1H; exact ⟨by simp [Bool.or_assoc], fun h => by rw [if_pos h], fun h => by rw [if_neg h]⟩
  have EO := Lib.hid (show oneC V = min (max V (-1073741824)) 1073741824 from rfl)
  clear QE Cbd
  clear hY hX hV hHQ hA hr hW hW2 hH1 bW br hc hf
  go_enter Tryz.func46, Tryz.ntmps46
  go_upto_region 2 with (first | (go_at_call 81; (refine SC.out.mono ?_); rintro e w1 ⟨rfl, hu1⟩; have R1 := Lib.hid (R0.out.upd' hu1); clear hu1 SC R0) | (go_at_call 44; (refine (WC.out _).mono ?_); rintro e w2 ⟨rfl, rfl⟩))
  by_cases hx : X ≤ 843314857
  · have dx : decide (X ≤ 843314857) = true := by simpa using hx
    have QG := Lib.hid (QF.out.1 hx)
    clear QF hx eC
    obtain ⟨z, hz⟩ : ∃ x, mulV W W 30 = x := ⟨_, rfl⟩
    obtain ⟨s, hs⟩ : ∃ x, serV z sinL 5 = x := ⟨_, rfl⟩
    rw [hz, hs] at QG
    have HZ := Lib.hid hz
    have HS := Lib.hid hs
    clear hz hs
    rcases cs with ⟨d1, e1⟩ | ⟨d1, d2, e1⟩ | ⟨d1, d2, rfl⟩
    all_goals
      go_upto_region 13 with (go_at_call 77; (refine (AC.out _).mono ?_); rintro e w3 ⟨rfl, rfl⟩)
      refine wp_region_lit ?_
      refine wpList_val (v := ?_) rfl ?_ ?_
      rotate_left
      · (go_simp; (try (first | with_reducible rfl | (constructor <;> with_reducible rfl))))
      (try simp only [Act.put, nA, nB, nC])
      refine wpList_val (v := ?_) rfl ?_ ?_
      rotate_left
      · (go_simp; (try (first | with_reducible rfl | (constructor <;> with_reducible rfl))))
      (try simp only [Act.put, nA, nB, nC])
      refine wpList_val (v := ?_) rfl ?_ ?_
      rotate_left
      · (go_simp; (try (first | with_reducible rfl | (constructor <;> with_reducible rfl))))
      (try simp only [Act.put, nA, nB, nC])
      refine wpList_val (v := ?_) rfl ?_ ?_
      rotate_left
      · (go_simp; (try (first | with_reducible rfl | (constructor <;> with_reducible rfl))))
      (try simp only [Act.put, nA, nB, nC])
      refine wpList_val (v := ?_) rfl ?_ ?_
      rotate_left
      · (go_simp; (try (first | with_reducible rfl | (constructor <;> with_reducible rfl))))
      (try simp only [Act.put, nA, nB, nC])
      refine wpList_val (v := ?_) rfl ?_ ?_
      rotate_left
      · (go_simp; (try (first | with_reducible rfl | (constructor <;> with_reducible rfl))))
      (try simp only [Act.put, nA, nB, nC])
      refine wpList_step (fun K hK => ?_)
      go_simp
      (refine (tm_any c H1 W W _ R1.out.cell R1.out.free).mono ?_); rintro e w4 ⟨rfl, hu⟩; (rw [HZ.out]); have R4 := Lib.hid (R1.out.upd' hu); clear hu R1
      (try dsimp only)
      (try simp only [Act.put, nA, nB, nC])
      refine hK _ _ ?_
      clear hK K
      refine wpList_act (v := ?_) (w' := ?_) rfl ?_ ?_
      rotate_left 2
      · (go_simp; (try (first | with_reducible rfl | (constructor <;> with_reducible rfl))))
      (try simp only [Act.put, nA, nB, nC])
      refine wpList_step (fun K hK => ?_)
      go_simp
      have R5 := Lib.hid (R4.out.down (Below.alloc (Below.refl _ _) (Nat.le_refl _) (.cells #[.int .i64 (-27), .int .i64 2959, .int .i64 (-213044), .int .i64 8947849, .int .i64 (-178956971), .int .i64 1073741824] 2))); (refine (series_any c _ z sinL w4.heap.size 0 6 5 _ R5.out.cell R5.out.free (by decide) (by decide) (by decide) (lst_sin w4 _)).mono ?_); rintro e w5 ⟨rfl, hu⟩; (rw [HS.out]); have R6 := Lib.hid (R5.out.upd' hu); clear hu R4 R5
      (try dsimp only)
      (try simp only [Act.put, nA, nB, nC])
      refine hK _ _ ?_
      clear hK K
      refine wpList_step (fun K hK => ?_)
      go_simp
      (refine (tm_any c _ W s _ R6.out.cell R6.out.free).mono ?_); rintro e w6 ⟨rfl, hu⟩; have R7 := Lib.hid (R6.out.upd' hu); clear hu R6
      (try dsimp only)
      (try simp only [Act.put, nA, nB, nC])
      refine hK _ _ ?_
      clear hK K
      refine wpList_val (v := ?_) rfl ?_ ?_
      rotate_left
      · (go_simp; (try (first | with_reducible rfl | (constructor <;> with_reducible rfl))))
      (try simp only [Act.put, nA, nB, nC])
      refine wpList_nil ?_
      obtain ⟨v, hv⟩ : ∃ x, mulV W s 30 = x := ⟨_, rfl⟩
      rw [hv]
      have EV := Lib.hid (show V = v by rw [QG.out.1, ← hv, ← HS.out, ← HZ.out]; rfl)
      clear hv
      go_wp2_with fail
      go_ret
      exact ⟨by rw [EO.out, EV.out]; rfl, by rw [QG.out.2]; exact R7.out.upd⟩
  · have dx : decide (X ≤ 843314857) = false := by simpa using hx
    have QG := Lib.hid (QF.out.2 (by omega))
    clear QF hx
    obtain ⟨z, hz⟩ : ∃ x, mulV Y Y 30 = x := ⟨_, rfl⟩
    obtain ⟨s, hs⟩ : ∃ x, cs1V Y = x := ⟨_, rfl⟩
    have hs2 : serV z cosL 6 = s := by rw [← hz]; exact hs
    rw [hz, hs] at QG
    rw [hs] at eC
    have HZ := Lib.hid hz
    have HS := Lib.hid hs2
    clear hz hs hs2
    have dn : (decide (W < 0) = true ∧ V = -s) ∨ (decide (W < 0) = false ∧ V = s) := by
      by_cases h : W < 0
      · exact .inl ⟨by simpa using h, QG.out.2.1 h⟩
      · exact .inr ⟨by simpa using h, QG.out.2.2 (by omega)⟩
    have QK := Lib.hid QG.out.1
    clear QG
    rcases cs with ⟨d1, e1⟩ | ⟨d1, d2, e1⟩ | ⟨d1, d2, rfl⟩
    all_goals
      go_upto_region 9 with (go_at_call 77; (refine (AC.out _).mono ?_); rintro e w3 ⟨rfl, rfl⟩)
      refine wp_region_lit ?_
      refine wpList_val (v := ?_) rfl ?_ ?_
      rotate_left
      · (go_simp; (try (first | with_reducible rfl | (constructor <;> with_reducible rfl))))
      (try simp only [Act.put, nA, nB, nC])
      refine wpList_val (v := ?_) rfl ?_ ?_
      rotate_left
      · (go_simp; (try (first | with_reducible rfl | (constructor <;> with_reducible rfl))))
      (try simp only [Act.put, nA, nB, nC])
      refine wpList_val (v := ?_) rfl ?_ ?_
      rotate_left
      · (go_simp; (try (first | with_reducible rfl | (constructor <;> with_reducible rfl))))
      (try simp only [Act.put, nA, nB, nC])
      refine wpList_val (v := ?_) rfl ?_ ?_
      rotate_left
      · (go_simp; (try (first | with_reducible rfl | (constructor <;> with_reducible rfl))))
      (try simp only [Act.put, nA, nB, nC])
      refine wpList_step (fun K hK => ?_)
      go_simp
      (simp only [HY.out]); (refine (tm_any c H1 Y Y _ R1.out.cell R1.out.free).mono ?_); rintro e w4 ⟨rfl, hu⟩; (rw [HZ.out]); have R4 := Lib.hid (R1.out.upd' hu); clear hu R1
      (try dsimp only)
      (try simp only [Act.put, nA, nB, nC])
      refine hK _ _ ?_
      clear hK K
      refine wpList_act (v := ?_) (w' := ?_) rfl ?_ ?_
      rotate_left 2
      · (go_simp; (try (first | with_reducible rfl | (constructor <;> with_reducible rfl))))
      (try simp only [Act.put, nA, nB, nC])
      refine wpList_step (fun K hK => ?_)
      go_simp
      have R5 := Lib.hid (R4.out.down (Below.alloc (Below.refl _ _) (Nat.le_refl _) (.cells #[.int .i64 2, .int .i64 (-296), .int .i64 26631, .int .i64 (-1491308), .int .i64 44739243, .int .i64 (-536870912), .int .i64 1073741824] 2))); (refine (series_any c _ z cosL w4.heap.size 0 7 6 _ R5.out.cell R5.out.free (by decide) (by decide) (by decide) (lst_cos w4 _)).mono ?_); rintro e w5 ⟨rfl, hu⟩; (rw [HS.out]); have R6 := Lib.hid (R5.out.upd' hu); clear hu R4 R5
      (try dsimp only)
      (try simp only [Act.put, nA, nB, nC])
      refine hK _ _ ?_
      clear hK K
      refine wpList_val (v := ?_) rfl ?_ ?_
      rotate_left
      · (go_simp; (try (first | with_reducible rfl | (constructor <;> with_reducible rfl))))
      (try simp only [Act.put, nA, nB, nC])
      refine wpList_nil ?_
      rcases dn with ⟨q1, EV⟩ | ⟨q1, EV⟩
      all_goals
        have EV := Lib.hid EV
        go_wp2_with fail
        go_ret
        exact ⟨by (first | (rw [show oneC V = min (-min s 1073741824) 1073741824 by rw [EO.out, EV.out]; omega]; rfl) | (rw [EO.out, EV.out]; rfl)), by rw [QK.out]; exact R6.out.upd⟩
theorem sin_any (c : Addr) (h : Bool) (a : Int) (w : World) (hc : w.cell? c = some (.bool h)) (hf : w.frozen? c = false) :
    Calls Tryz.prog 46 #[.pointer (some c), .int .i64 a] w fun e w' => e = .returned (.int .i64 (sinV a)) ∧ Upd c (h || sinH a) w w' := by
  refine (sin_walk c h a _ _ _ w hc hf rfl rfl rfl).mono ?_
  rintro e w' ⟨rfl, hu⟩
  refine ⟨rfl, ?_⟩
  rw [show (h || sinH a) = (h || satH a || qrtH (fldV (wrpV (satV a)))) by unfold sinH; simp [Bool.or_assoc]]
  exact hu
theorem cos_any (c : Addr) (h : Bool) (a : Int) (w : World) (hc : w.cell? c = some (.bool h)) (hf : w.frozen? c = false) :
    Calls Tryz.prog 45 #[.pointer (some c), .int .i64 a] w fun e w' => e = .returned (.int .i64 (cosV a)) ∧ Upd c (h || cosH a) w w' := by
  have br := wrpV_bd a
  have WC := fun (x : World) => wrap_any a x
  have SC := sin_any c h (1686629713 + wrpV a) w hc hf
  rw [show cosV a = sinV (1686629713 + wrpV a) from rfl, show cosH a = sinH (1686629713 + wrpV a) from rfl]
  obtain ⟨r, hr⟩ : ∃ x, wrpV a = x := ⟨_, rfl⟩
  rw [hr] at WC SC br ⊢
  have WC := Lib.hid WC
  have e1 : IntKind.i64.wrap (1686629713 + r) = 1686629713 + r := IntWalk.i64_in _ (by omega)
  obtain ⟨q, hq⟩ : ∃ x, 1686629713 + r = x := ⟨_, rfl⟩
  rw [hq] at SC e1 ⊢
  rw [← hq] at e1
  have SC := Lib.hid SC
  have HQ := Lib.hid hq
  clear hr hq br hc hf
  go_enter Tryz.func45, Tryz.ntmps45
  go_wp2_with (first | (go_at_call 44; (refine (WC.out _).mono ?_); rintro e w2 ⟨rfl, rfl⟩) | (go_at_call 46; (try rw [HQ.out]); (refine SC.out.mono ?_); rintro e w3 ⟨rfl, hu1⟩))
  go_ret
  exact ⟨rfl, hu1⟩
end Go.Proofs.YtgfklheepkgedaaGreat
/- Contract of quat.Mul. -/
namespace Go.Proofs.YtgfklheepkgedaaGreat
open Go.RowKit
set_option maxRecDepth 100000
theorem lst4 (w : World) (T : TypeId) (a b c d : Int) : ∀ i, i < 4 → (w.alloc (.cells #[.int .i64 a, .int .i64 b, .int .i64 c, .int .i64 d] T)).cell? ⟨w.heap.size, 0 + i, none⟩ = some (.int .i64 (q4 a b c d i)) := by
  intro i hi
  obtain rfl | rfl | rfl | rfl : i = 0 ∨ i = 1 ∨ i = 2 ∨ i = 3 := by omega
  all_goals simp [go_sem, q4]
theorem q4_eq (F : Nat → Int) : arrv 4 (q4 (F 0) (F 1) (F 2) (F 3)) = arrv 4 F := arrv_congr fun i hi => by
  obtain rfl | rfl | rfl | rfl : i = 0 ∨ i = 1 ∨ i = 2 ∨ i = 3 := by omega
  all_goals rfl
open Go in
theorem run_build_q4 {o : Oper} {ev : Operand → Value} {w : World} (x y z u : Operand) (ho : o.op = .build 38 #[(0, x), (1, y), (2, z), (3, u)]) {a b c d : Int} (hx : ev x = .int .i64 a) (hy : ev y = .int .i64 b) (hw : ev z = .int .i64 c) (hu : ev u = .int .i64 d) :
    (execOp ev o).run Tryz.prog w = .ok (.value (.agg (arrv 4 (q4 a b c d)))) w := by
  unfold execOp
  simp only [ho, List.map_toArray, List.map_cons, List.map_nil, hx, hy, hw, hu]
  kernel_rfl
/-- What a closure of quaternions holds: the flag's pointer in a box, the quaternion. -/
structure QcR (c : Addr) (h : Bool) (cb ab : Nat) (q : Nat → Int) (w wr : World) : Prop where
  upd : Upd c h w wr
  ptr : wr.cell? ⟨cb, 0, none⟩ = some (.pointer (some c))
  a : Blk wr ab 38 4 q
  cell : wr.cell? c = some (.bool h)
  free : wr.frozen? c = false
theorem QcR.upd' {c : Addr} {h h' : Bool} {cb ab : Nat} {q : Nat → Int} {w wr w' : World} (s : QcR c h cb ab q w wr) (u : Upd c h' wr w') : QcR c h' cb ab q w w' :=
  ⟨s.upd.trans u, by rw [u.cell (World.block_lt_of_cell? _ _ s.ptr) (fun e => by have := s.cell; rw [e, s.ptr] at this; cases this)]; exact s.ptr, s.a.upd u (fun e => s.a.flag s.cell (by rw [e])), u.cellc s.cell, (u.frozen (World.block_lt_of_cell? _ _ s.cell)).trans s.free⟩
theorem QcR.down {c : Addr} {h : Bool} {cb ab : Nat} {q : Nat → Int} {w wr w' : World} (s : QcR c h cb ab q w wr) (u : Below wr.heap.size wr w') : QcR c h cb ab q w w' :=
  ⟨s.upd.then u, (u.cell (World.block_lt_of_cell? _ _ s.ptr)).trans s.ptr, s.a.below u, (u.cell (World.block_lt_of_cell? _ _ s.cell)).trans s.cell, (u.frozen (World.block_lt_of_cell? _ _ s.cell)).trans s.free⟩
theorem QcR.drew {c : Addr} {h : Bool} {cb ab : Nat} {q : Nat → Int} {w wr : World} (s : QcR c h cb ab q w wr) : QcR c h cb ab q w wr.drew := s.down (Below.drew (Below.refl _ _))
set_option maxHeartbeats 4000000 in
theorem qdot_any (c : Addr) (h : Bool) (cb ab : Nat) (q : Nat → Int) (x0 x1 x2 x3 : Int) (w : World) (S0 : QcR c h cb ab q w w) :
    Calls Tryz.prog 50 #[.int .i64 x0, .int .i64 x1, .int .i64 x2, .int .i64 x3, .pointer (some ⟨cb, 0, none⟩), .pointer (some ⟨ab, 0, none⟩)] w fun e w' =>
      e = .returned (.int .i64 (dotV 30 q (q4 x0 x1 x2 x3) 4)) ∧ Upd c (h || dotH 30 q (q4 x0 x1 x2 x3) 4) w w' := by
  have HS := Lib.hid S0.drew
  clear S0
  go_enter Tryz.func50, Tryz.ntmps50
  go_upto_region 1 with fail
  refine wp_region_M (fun w' => w'.cell? ⟨cb, 0, none⟩ = some (.pointer (some c))) 8 (by kernel_rfl) ?_ (fun hHeld => ?_)
  · exact HS.out.ptr
  refine wpAnyM_take 0 (v := ?_) rfl (by kernel_rfl) (fun _ _ _ h => h) (Or.inl ⟨by rfl, ?_⟩) (by assumption) ?_
  rotate_left
  · (intro wx hSw; (try dsimp only at hSw); go_simp; (try with_reducible rfl))
  (try simp only [Act.put, nA, nB, nC])
  refine wpAnyM_take 1 (v := ?_) rfl (by kernel_rfl) (fun _ _ _ h => h) (Or.inl ⟨by rfl, ?_⟩) (by assumption) ?_
  rotate_left
  · (intro wx hSw; (try dsimp only at hSw); go_simp; (try with_reducible rfl))
  (try simp only [Act.put, nA, nB, nC])
  refine wpAnyM_take 2 (v := ?_) rfl (by kernel_rfl) (fun _ _ _ h => h) (Or.inl ⟨by rfl, ?_⟩) (by assumption) ?_
  rotate_left
  · (intro wx hSw; (try dsimp only at hSw); go_simp; (try with_reducible rfl))
  (try simp only [Act.put, nA, nB, nC])
  refine wpAnyM_take 3 (v := ?_) rfl (by kernel_rfl) (fun _ _ _ h => h) (Or.inl ⟨by rfl, ?_⟩) (by assumption) ?_
  rotate_left
  · (intro wx hSw; (try dsimp only at hSw); go_simp; (try with_reducible rfl))
  (try simp only [Act.put, nA, nB, nC])
  refine wpAnyM_take 4 (v := ?_) rfl (by kernel_rfl) (fun _ _ _ h => h) (Or.inl ⟨by rfl, ?_⟩) (by assumption) ?_
  rotate_left
  · (intro wx hSw; (try dsimp only at hSw); go_simp; (try with_reducible rfl))
  (try simp only [Act.put, nA, nB, nC])
  refine wpAnyM_take 5 (v := ?_) rfl (by kernel_rfl) (fun _ _ _ h => h) (Or.inl ⟨by rfl, ?_⟩) (by assumption) ?_
  rotate_left
  · (intro wx hSw; (try dsimp only at hSw); go_simp; (try with_reducible rfl))
  (try simp only [Act.put, nA, nB, nC])
  refine wpAnyM_oneS 6 rfl (by kernel_rfl) (fun K hK => ?_)
  go_simp; have HT := Lib.hid (HS.out.down (Below.alloc (Below.refl _ _) (Nat.le_refl _) (.cells #[.int .i64 x0, .int .i64 x1, .int .i64 x2, .int .i64 x3] 2))); have L4 := Lib.hid (lst4 w.drew 2 x0 x1 x2 x3); clear HS; have HS := HT; clear HT
  clear hHeld
  refine hK.out _ _ ?_ (fun hHeld => ?_)
  · exact HS.out.ptr
  clear hK K
  (try simp only [Act.put, nA, nB, nC])
  refine wpAnyM_oneS 7 rfl (by kernel_rfl) (fun K hK => ?_)
  go_simp
  (refine (dot_any c h 30 q (q4 x0 x1 x2 x3) ab 0 4 w.drew.heap.size 0 4 4 _ HS.out.cell HS.out.free (by decide) (by decide) (by decide) (fun i hi => by rw [Nat.zero_add]; exact HS.out.a.cell hi) L4.out).mono ?_); rintro e w2 ⟨rfl, hu⟩; have HT := Lib.hid (HS.out.upd' hu); clear HS L4 hu; have HS := HT; clear HT
  (try dsimp only)
  (try simp only [Act.put, nA, nB, nC])
  clear hHeld
  refine hK.out _ _ ?_ (fun hHeld => ?_)
  · exact HS.out.ptr
  clear hK K
  (try simp only [Act.put, nA, nB, nC])
  refine wpAnyM_one 8 rfl (by kernel_rfl) (fun K hK => ?_)
  go_simp
  refine hK.out _ _ (.inl (by kernel_rfl)) (fun _ => ?_)
  clear hK K
  (try simp only [Act.put, nA, nB, nC])
  refine wpAnyM_done (by kernel_rfl) ?_ _
  go_wp2_with fail
  go_ret
  exact ⟨rfl, HS.out.upd⟩
end Go.Proofs.YtgfklheepkgedaaGreat
/- Contract of quat.Mul (2). -/
namespace Go.Proofs.YtgfklheepkgedaaGreat
open Go.RowKit
set_option maxRecDepth 100000
/-- The blocks of quat.Mul. -/
structure QmR (c : Addr) (h : Bool) (A B : Nat → Int) (w wr : World) : Prop where
  upd : Upd c h w wr
  ptr : wr.cell? ⟨w.heap.size, 0, none⟩ = some (.pointer (some c))
  a : Blk wr (w.heap.size + 1) 38 4 A
  b : Blk wr (w.heap.size + 1 + 1) 38 4 B
  r : Blk wr (w.heap.size + 1 + 1 + 1) 38 4 (fun _ => 0)
  cell : wr.cell? c = some (.bool h)
  free : wr.frozen? c = false
  cb : c.block < w.heap.size
theorem QmR.upd' {c : Addr} {h h' : Bool} {A B : Nat → Int} {w wr w' : World} (s : QmR c h A B w wr) (u : Upd c h' wr w') : QmR c h' A B w w' := by
  have hcb := s.cb
  exact ⟨s.upd.trans u, by rw [u.cell (World.block_lt_of_cell? _ _ s.ptr) (fun e => by rw [e] at hcb; exact absurd hcb (by simp))]; exact s.ptr, s.a.upd u (by omega), s.b.upd u (by omega), s.r.upd u (by omega), u.cellc s.cell, (u.frozen (World.block_lt_of_cell? _ _ s.cell)).trans s.free, s.cb⟩
theorem QmR.down {c : Addr} {h : Bool} {A B : Nat → Int} {w wr w' : World} (s : QmR c h A B w wr) (u : Below wr.heap.size wr w') : QmR c h A B w w' :=
  ⟨s.upd.then u, (u.cell (World.block_lt_of_cell? _ _ s.ptr)).trans s.ptr, s.a.below u, s.b.below u, s.r.below u, (u.cell (World.block_lt_of_cell? _ _ s.cell)).trans s.cell, (u.frozen (World.block_lt_of_cell? _ _ s.cell)).trans s.free, s.cb⟩
theorem QmR.drew {c : Addr} {h : Bool} {A B : Nat → Int} {w wr : World} (s : QmR c h A B w wr) : QmR c h A B w wr.drew := s.down (Below.drew (Below.refl _ _))
theorem cell_row_other {w : World} {g : Nat} (cs : Array Value) {p : Addr} (h : p.block ≠ g) : (w.setRow g cs).cell? p = w.cell? p ∧ (w.setRow g cs).frozen? p = w.frozen? p := by
  have e := Go.setRow_other w g p.block cs h
  constructor
  · simp only [World.cell?, e]
  · simp only [World.frozen?, e]
theorem QmR.rowA {c : Addr} {h : Bool} {A B : Nat → Int} {w wr : World} (s : QmR c h A B w wr) (F : Nat → Int) : QmR c h F B w (wr.setRow (w.heap.size + 1) (arrv 4 F)) := by
  have hcb := s.cb
  exact ⟨s.upd.then' (below_row (Below.refl _ _) (by omega) _), by rw [(cell_row_other _ (by simp)).1]; exact s.ptr, s.a.setRow F, s.b.setRow_other _ (by omega), s.r.setRow_other _ (by omega), by rw [(cell_row_other _ (by omega)).1]; exact s.cell, by rw [(cell_row_other _ (by omega)).2]; exact s.free, s.cb⟩
theorem QmR.rowB {c : Addr} {h : Bool} {A B : Nat → Int} {w wr : World} (s : QmR c h A B w wr) (F : Nat → Int) : QmR c h A F w (wr.setRow (w.heap.size + 1 + 1) (arrv 4 F)) := by
  have hcb := s.cb
  exact ⟨s.upd.then' (below_row (Below.refl _ _) (by omega) _), by rw [(cell_row_other _ (by simp; omega)).1]; exact s.ptr, s.a.setRow_other _ (by omega), s.b.setRow F, s.r.setRow_other _ (by omega), by rw [(cell_row_other _ (by omega)).1]; exact s.cell, by rw [(cell_row_other _ (by omega)).2]; exact s.free, s.cb⟩
theorem QmR.qc {c : Addr} {h : Bool} {A B : Nat → Int} {w wr : World} (s : QmR c h A B w wr) : QcR c h w.heap.size (w.heap.size + 1) A wr wr := ⟨Upd.refl s.cell, s.ptr, s.a, s.cell, s.free⟩
theorem qm_start (c : Addr) (h : Bool) (A B : Nat → Int) (w : World) (hc : w.cell? c = some (.bool h)) (hf : w.frozen? c = false) :
    QmR c h A B w ((((w.alloc (.cells #[.pointer (some c)] 30)).alloc (.cells (arrv 4 A) 38)).alloc (.cells (arrv 4 B) 38)).alloc (.cells #[.int .i64 0, .int .i64 0, .int .i64 0, .int .i64 0] 38)) := by
  have hcb := World.block_lt_of_cell? w c hc
  have bl : Below w.heap.size w ((((w.alloc (.cells #[.pointer (some c)] 30)).alloc (.cells (arrv 4 A) 38)).alloc (.cells (arrv 4 B) 38)).alloc (.cells #[.int .i64 0, .int .i64 0, .int .i64 0, .int .i64 0] 38)) := by (repeat (first | with_reducible exact Below.refl _ _ | with_reducible apply Below.drew | (with_reducible refine below_drewN ?_ _) | (with_reducible refine Below.alloc ?_ (by (try simp) <;> omega) _) | (with_reducible refine Below.setCell ?_ (by (try simp) <;> omega) _)))
  refine ⟨Upd.then (Upd.refl hc) bl, ?_, ?_, ?_, ?_, (bl.cell hcb).trans hc, (bl.frozen hcb).trans hf, hcb⟩
  · simp [go_sem]
  · exact ((Blk.new1 w _ _ 4 A).alloc _).alloc _
  · exact (blk_new2 w _ _ _ 4 B).alloc _
  · rw [zq4]; exact blk_new3 w _ _ _ _ 4 _
set_option maxHeartbeats 8000000 in
theorem qmul_any (c : Addr) (h : Bool) (A B : Nat → Int) (w : World) (hc : w.cell? c = some (.bool h)) (hf : w.frozen? c = false) :
    Calls Tryz.prog 23 #[.pointer (some c), .agg (arrv 4 A), .agg (arrv 4 B)] w fun e w' => e = .returned (.agg (arrv 4 (qmV A B))) ∧ Upd c (h || qmH A B) w w' := by
  have hmf : ∀ (fn : Fn) (first cap : Array Value) (w : World), (Instr.makeFunc fn first cap).run Tryz.prog w = .ok (.func fn first cap) w := fun _ _ _ _ => rfl
  have S0 := Lib.hid (qm_start c h A B w hc hf)
  clear hc hf
  go_enter Tryz.func23, Tryz.ntmps23
  go_upto_region 1 with fail
  generalize (((w.alloc (.cells #[.pointer (some c)] 30)).alloc (.cells (arrv 4 A) 38)).alloc (.cells (arrv 4 B) 38)).alloc (.cells #[.int .i64 0, .int .i64 0, .int .i64 0, .int .i64 0] 38) = W0 at *
  have HS := Lib.hid S0.out.drew
  clear S0
  refine wp_region_M (fun w' => w'.cell? ⟨w.heap.size, 0, none⟩ = some (.pointer (some c)) ∧ Blk w' (w.heap.size + 1) 38 4 A ∧ Blk w' (w.heap.size + 1 + 1) 38 4 B) 5 (by kernel_rfl) ?_ (fun hHeld => ?_)
  · exact ⟨HS.out.ptr, HS.out.a, HS.out.b⟩
  refine wpAnyM_take2 2 0 (v := ?_) rfl (by kernel_rfl) (fun _ _ _ h => h) (Or.inl ⟨by rfl, ?_⟩) (by assumption) ?_
  rotate_left
  · (intro wx hSw; have h0 := hSw.1; go_simp; (try with_reducible rfl))
  (try simp only [Act.put, nA, nB, nC])
  refine wpAnyM_take2 2 1 (v := ?_) rfl (by kernel_rfl) (fun _ _ _ h => h) (Or.inl ⟨by rfl, ?_⟩) (by assumption) ?_
  rotate_left
  · (intro wx hSw; refine Eq.trans (run_load_row 38 (.tmp 4) (by rfl) (w.heap.size + 1) (by rfl) _ _ _ _ (hSw.2.1) Tryz.underlying38 rfl (iqt.trans (by rw [arrv_size]))) ?_; with_reducible rfl)
  (try simp only [Act.put, nA, nB, nC])
  refine wpAnyM_take 3 (v := ?_) rfl (by kernel_rfl) (fun _ _ _ h => h) (Or.inl ⟨by rfl, ?_⟩) (by assumption) ?_
  rotate_left
  · (intro wx hSw; have h0 := hSw.1; go_simp; (try with_reducible rfl))
  (try simp only [Act.put, nA, nB, nC])
  refine wpAnyM_take 4 (v := ?_) rfl (by kernel_rfl) (fun _ _ _ h => h) (Or.inl ⟨by rfl, ?_⟩) (by assumption) ?_
  rotate_left
  · (intro wx hSw; refine Eq.trans (run_load_row 38 (.tmp 5) (by rfl) (w.heap.size + 1 + 1) (by rfl) _ _ _ _ (hSw.2.2) Tryz.underlying38 rfl (iqt.trans (by rw [arrv_size]))) ?_; with_reducible rfl)
  (try simp only [Act.put, nA, nB, nC])
  refine wpAnyM_oneS 2 rfl (by kernel_rfl) (fun K hK => ?_)
  go_simp
  (refine (qsat_any c _ A _ HS.out.cell HS.out.free).mono ?_); rintro e w1 ⟨rfl, hu⟩; have HT := Lib.hid (HS.out.upd' hu); clear HS hu; have HS := HT; clear HT
  (try dsimp only)
  (try simp only [Act.put, nA, nB, nC])
  clear hHeld
  refine hK.out _ _ ?_ (fun hHeld => ?_)
  · exact ⟨HS.out.ptr, HS.out.a, HS.out.b⟩
  clear hK K
  (try simp only [Act.put, nA, nB, nC])
  refine wpAnyM_one 5 rfl (by kernel_rfl) (fun K hK => ?_)
  go_simp
  (refine (qsat_any c _ B _ HS.out.cell HS.out.free).mono ?_); rintro e w2 ⟨rfl, hu⟩; have HT := Lib.hid (HS.out.upd' hu); clear HS hu; have HS := HT; clear HT
  (try dsimp only)
  (try simp only [Act.put, nA, nB, nC])
  refine hK.out _ _ (.inl (by kernel_rfl)) (fun _ => ?_)
  clear hK K
  (try simp only [Act.put, nA, nB, nC])
  refine wpAnyM_switch (fun _ => True) 7 (by kernel_rfl) ?_ (fun hHeld => ?_)
  · trivial
  refine wpAnyM_oneS 6 rfl (by kernel_rfl) (fun K hK => ?_)
  go_simp; rw [if_pos (arrv_size _ _), run_storeCells_row _ HS.out.a]; go_simp; have HT := Lib.hid (HS.out.rowA (satA A)); clear HS; have HS := HT; clear HT
  clear hHeld
  refine hK.out _ _ ?_ (fun hHeld => ?_)
  · trivial
  clear hK K
  (try simp only [Act.put, nA, nB, nC])
  refine wpAnyM_one 7 rfl (by kernel_rfl) (fun K hK => ?_)
  go_simp; rw [if_pos (arrv_size _ _), run_storeCells_row _ HS.out.b]; go_simp; have HT := Lib.hid (HS.out.rowB (satA B)); clear HS; have HS := HT; clear HT
  refine hK.out _ _ (.inl (by kernel_rfl)) (fun _ => ?_)
  clear hK K
  (try simp only [Act.put, nA, nB, nC])
  refine wpAnyM_switch (fun _ => True) 7 (by kernel_rfl) ?_ (fun hHeld => ?_)
  · trivial
  refine wpAnyM_done (by kernel_rfl) ?_ _
  generalize (w2.setRow (w.heap.size + 1) (arrv 4 (satA A))).setRow (w.heap.size + 1 + 1) (arrv 4 (satA B)) = W3 at *
  have bb : ∀ i, -1152921504606846976 ≤ satA B i ∧ satA B i ≤ 1152921504606846976 := fun i => satV_bd _
  obtain ⟨F, hF⟩ : ∃ x, satA A = x := ⟨_, rfl⟩
  obtain ⟨G, hG⟩ : ∃ x, satA B = x := ⟨_, rfl⟩
  obtain ⟨H1, hH1⟩ : ∃ x, (h || orB (fun i => satH (A i)) 4 || orB (fun i => satH (B i)) 4) = x := ⟨_, rfl⟩
  rw [hF, hG, hH1] at HS
  rw [hG] at bb
  have HE := Lib.hid (show (fun r => dotV 30 F (qmR G r) 4) = qmV A B ∧ (H1 || orB (fun r => dotH 30 F (qmR G r) 4) 4) = (h || qmH A B) by
    rw [← hF, ← hG, ← hH1]; exact ⟨rfl, by unfold qmH; simp [Bool.or_assoc]⟩)
  clear hF hG hH1
  have e1 : IntKind.i64.wrap (-(G 1)) = -(G 1) := IntWalk.i64_in _ (by have := bb 1; omega)
  have e2 : IntKind.i64.wrap (-(G 2)) = -(G 2) := IntWalk.i64_in _ (by have := bb 2; omega)
  have e3 : IntKind.i64.wrap (-(G 3)) = -(G 3) := IntWalk.i64_in _ (by have := bb 3; omega)
  obtain ⟨g0, h0⟩ : ∃ x, G 0 = x := ⟨_, rfl⟩
  obtain ⟨g1, h1⟩ : ∃ x, G 1 = x := ⟨_, rfl⟩
  obtain ⟨g2, h2⟩ : ∃ x, G 2 = x := ⟨_, rfl⟩
  obtain ⟨g3, h3⟩ : ∃ x, G 3 = x := ⟨_, rfl⟩
  rw [h1] at e1
  rw [h2] at e2
  rw [h3] at e3
  have HG := Lib.hid (And.intro (And.intro h0 h1) (And.intro h2 h3))
  clear h0 h1 h2 h3 bb
  go_upto_region 3 with fail
  have HT := Lib.hid HS.out.drew
  clear HS
  have HS := HT
  clear HT
  refine wp_region_M (fun w' => w'.cell? ⟨w.heap.size + 1 + 1, 0, none⟩ = some (.int .i64 g0) ∧ w'.cell? ⟨w.heap.size + 1 + 1, 1, none⟩ = some (.int .i64 g1) ∧ w'.cell? ⟨w.heap.size + 1 + 1, 2, none⟩ = some (.int .i64 g2) ∧ w'.cell? ⟨w.heap.size + 1 + 1, 3, none⟩ = some (.int .i64 g3)) 47 (by kernel_rfl) ?_ (fun hHeld => ?_)
  · exact ⟨by rw [← HG.out.1.1]; exact HS.out.b.cell (by decide), by rw [← HG.out.1.2]; exact HS.out.b.cell (by decide), by rw [← HG.out.2.1]; exact HS.out.b.cell (by decide), by rw [← HG.out.2.2]; exact HS.out.b.cell (by decide)⟩
  refine wpAnyM_take 0 (v := ?_) rfl (by kernel_rfl) (fun _ _ _ h => h) (Or.inl ⟨by rfl, ?_⟩) (by assumption) ?_
  rotate_left
  · (intro wx hSw; (try dsimp only at hSw); go_simp; (try with_reducible rfl))
  (try simp only [Act.put, nA, nB, nC])
  refine wpAnyM_take 1 (v := ?_) rfl (by kernel_rfl) (fun _ _ _ h => h) (Or.inl ⟨by rfl, ?_⟩) (by assumption) ?_
  rotate_left
  · (intro wx hSw; (try dsimp only at hSw); go_simp; (try with_reducible rfl))
  (try simp only [Act.put, nA, nB, nC])
  refine wpAnyM_take 2 (v := ?_) rfl (by kernel_rfl) (fun _ _ _ h => h) (Or.inl ⟨by rfl, ?_⟩) (by assumption) ?_
  rotate_left
  · (intro wx hSw; (try dsimp only at hSw); go_simp; (try with_reducible rfl))
  (try simp only [Act.put, nA, nB, nC])
  refine wpAnyM_take 3 (v := ?_) rfl (by kernel_rfl) (fun _ _ _ h => h) (Or.inl ⟨by rfl, ?_⟩) (by assumption) ?_
  rotate_left
  · (intro wx hSw; (try dsimp only at hSw); go_simp; (try with_reducible rfl))
  (try simp only [Act.put, nA, nB, nC])
  refine wpAnyM_take 4 (v := ?_) rfl (by kernel_rfl) (fun _ _ _ h => h) (Or.inl ⟨by rfl, ?_⟩) (by assumption) ?_
  rotate_left
  · (intro wx hSw; (try dsimp only at hSw); go_simp; (try with_reducible rfl))
  (try simp only [Act.put, nA, nB, nC])
  refine wpAnyM_take 5 (v := ?_) rfl (by kernel_rfl) (fun _ _ _ h => h) (Or.inl ⟨by rfl, ?_⟩) (by assumption) ?_
  rotate_left
  · (intro wx hSw; (try dsimp only at hSw); go_simp; (try with_reducible rfl))
  (try simp only [Act.put, nA, nB, nC])
  refine wpAnyM_take 6 (v := ?_) rfl (by kernel_rfl) (fun _ _ _ h => h) (Or.inl ⟨by rfl, ?_⟩) (by assumption) ?_
  rotate_left
  · (intro wx hSw; (try dsimp only at hSw); go_simp; (try with_reducible rfl))
  (try simp only [Act.put, nA, nB, nC])
  refine wpAnyM_take 7 (v := ?_) rfl (by kernel_rfl) (fun _ _ _ h => h) (Or.inl ⟨by rfl, ?_⟩) (by assumption) ?_
  rotate_left
  · (intro wx hSw; (try dsimp only at hSw); go_simp; (try with_reducible rfl))
  (try simp only [Act.put, nA, nB, nC])
  refine wpAnyM_take 8 (v := ?_) rfl (by kernel_rfl) (fun _ _ _ h => h) (Or.inl ⟨by rfl, ?_⟩) (by assumption) ?_
  rotate_left
  · (intro wx hSw; (try dsimp only at hSw); go_simp; (try with_reducible rfl))
  (try simp only [Act.put, nA, nB, nC])
  refine wpAnyM_take 9 (v := ?_) rfl (by kernel_rfl) (fun _ _ _ h => h) (Or.inl ⟨by rfl, ?_⟩) (by assumption) ?_
  rotate_left
  · (intro wx hSw; (try dsimp only at hSw); go_simp; (try with_reducible rfl))
  (try simp only [Act.put, nA, nB, nC])
  refine wpAnyM_take 10 (v := ?_) rfl (by kernel_rfl) (fun _ _ _ h => h) (Or.inl ⟨by rfl, ?_⟩) (by assumption) ?_
  rotate_left
  · (intro wx hSw; (try dsimp only at hSw); go_simp; (try with_reducible rfl))
  (try simp only [Act.put, nA, nB, nC])
  refine wpAnyM_take 11 (v := ?_) rfl (by kernel_rfl) (fun _ _ _ h => h) (Or.inl ⟨by rfl, ?_⟩) (by assumption) ?_
  rotate_left
  · (intro wx hSw; (try dsimp only at hSw); go_simp; (try with_reducible rfl))
  (try simp only [Act.put, nA, nB, nC])
  refine wpAnyM_take 13 (v := ?_) rfl (by kernel_rfl) (fun _ _ _ h => h) (Or.inl ⟨by rfl, ?_⟩) (by assumption) ?_
  rotate_left
  · (intro wx hSw; (try dsimp only at hSw); go_simp; (try with_reducible rfl))
  (try simp only [Act.put, nA, nB, nC])
  refine wpAnyM_take 14 (v := ?_) rfl (by kernel_rfl) (fun _ _ _ h => h) (Or.inl ⟨by rfl, ?_⟩) (by assumption) ?_
  rotate_left
  · (intro wx hSw; (try dsimp only at hSw); go_simp; (try with_reducible rfl))
  (try simp only [Act.put, nA, nB, nC])
  refine wpAnyM_take 15 (v := ?_) rfl (by kernel_rfl) (fun _ _ _ h => h) (Or.inl ⟨by rfl, ?_⟩) (by assumption) ?_
  rotate_left
  · (intro wx hSw; (try dsimp only at hSw); go_simp; (try with_reducible rfl))
  (try simp only [Act.put, nA, nB, nC])
  refine wpAnyM_take 16 (v := ?_) rfl (by kernel_rfl) (fun _ _ _ h => h) (Or.inl ⟨by rfl, ?_⟩) (by assumption) ?_
  rotate_left
  · (intro wx hSw; (try dsimp only at hSw); go_simp; (try with_reducible rfl))
  (try simp only [Act.put, nA, nB, nC])
  refine wpAnyM_take 17 (v := ?_) rfl (by kernel_rfl) (fun _ _ _ h => h) (Or.inl ⟨by rfl, ?_⟩) (by assumption) ?_
  rotate_left
  · (intro wx hSw; (try dsimp only at hSw); go_simp; (try with_reducible rfl))
  (try simp only [Act.put, nA, nB, nC])
  refine wpAnyM_take 18 (v := ?_) rfl (by kernel_rfl) (fun _ _ _ h => h) (Or.inl ⟨by rfl, ?_⟩) (by assumption) ?_
  rotate_left
  · (intro wx hSw; (try dsimp only at hSw); go_simp; (try with_reducible rfl))
  (try simp only [Act.put, nA, nB, nC])
  refine wpAnyM_take 19 (v := ?_) rfl (by kernel_rfl) (fun _ _ _ h => h) (Or.inl ⟨by rfl, ?_⟩) (by assumption) ?_
  rotate_left
  · (intro wx hSw; (try dsimp only at hSw); go_simp; (try with_reducible rfl))
  (try simp only [Act.put, nA, nB, nC])
  refine wpAnyM_take 20 (v := ?_) rfl (by kernel_rfl) (fun _ _ _ h => h) (Or.inl ⟨by rfl, ?_⟩) (by assumption) ?_
  rotate_left
  · (intro wx hSw; (try dsimp only at hSw); go_simp; (try with_reducible rfl))
  (try simp only [Act.put, nA, nB, nC])
  refine wpAnyM_take 21 (v := ?_) rfl (by kernel_rfl) (fun _ _ _ h => h) (Or.inl ⟨by rfl, ?_⟩) (by assumption) ?_
  rotate_left
  · (intro wx hSw; (try dsimp only at hSw); go_simp; (try with_reducible rfl))
  (try simp only [Act.put, nA, nB, nC])
  refine wpAnyM_take 22 (v := ?_) rfl (by kernel_rfl) (fun _ _ _ h => h) (Or.inl ⟨by rfl, ?_⟩) (by assumption) ?_
  rotate_left
  · (intro wx hSw; (try dsimp only at hSw); go_simp; (try with_reducible rfl))
  (try simp only [Act.put, nA, nB, nC])
  refine wpAnyM_take 24 (v := ?_) rfl (by kernel_rfl) (fun _ _ _ h => h) (Or.inl ⟨by rfl, ?_⟩) (by assumption) ?_
  rotate_left
  · (intro wx hSw; (try dsimp only at hSw); go_simp; (try with_reducible rfl))
  (try simp only [Act.put, nA, nB, nC])
  refine wpAnyM_take 25 (v := ?_) rfl (by kernel_rfl) (fun _ _ _ h => h) (Or.inl ⟨by rfl, ?_⟩) (by assumption) ?_
  rotate_left
  · (intro wx hSw; (try dsimp only at hSw); go_simp; (try with_reducible rfl))
  (try simp only [Act.put, nA, nB, nC])
  refine wpAnyM_take 26 (v := ?_) rfl (by kernel_rfl) (fun _ _ _ h => h) (Or.inl ⟨by rfl, ?_⟩) (by assumption) ?_
  rotate_left
  · (intro wx hSw; (try dsimp only at hSw); go_simp; (try with_reducible rfl))
  (try simp only [Act.put, nA, nB, nC])
  refine wpAnyM_take 27 (v := ?_) rfl (by kernel_rfl) (fun _ _ _ h => h) (Or.inl ⟨by rfl, ?_⟩) (by assumption) ?_
  rotate_left
  · (intro wx hSw; (try dsimp only at hSw); go_simp; (try with_reducible rfl))
  (try simp only [Act.put, nA, nB, nC])
  refine wpAnyM_take 28 (v := ?_) rfl (by kernel_rfl) (fun _ _ _ h => h) (Or.inl ⟨by rfl, ?_⟩) (by assumption) ?_
  rotate_left
  · (intro wx hSw; (try dsimp only at hSw); go_simp; (try with_reducible rfl))
  (try simp only [Act.put, nA, nB, nC])
  refine wpAnyM_take 29 (v := ?_) rfl (by kernel_rfl) (fun _ _ _ h => h) (Or.inl ⟨by rfl, ?_⟩) (by assumption) ?_
  rotate_left
  · (intro wx hSw; (try dsimp only at hSw); go_simp; (try with_reducible rfl))
  (try simp only [Act.put, nA, nB, nC])
  refine wpAnyM_take 30 (v := ?_) rfl (by kernel_rfl) (fun _ _ _ h => h) (Or.inl ⟨by rfl, ?_⟩) (by assumption) ?_
  rotate_left
  · (intro wx hSw; (try dsimp only at hSw); go_simp; (try with_reducible rfl))
  (try simp only [Act.put, nA, nB, nC])
  refine wpAnyM_take 31 (v := ?_) rfl (by kernel_rfl) (fun _ _ _ h => h) (Or.inl ⟨by rfl, ?_⟩) (by assumption) ?_
  rotate_left
  · (intro wx hSw; (try dsimp only at hSw); go_simp; (try with_reducible rfl))
  (try simp only [Act.put, nA, nB, nC])
  refine wpAnyM_take 32 (v := ?_) rfl (by kernel_rfl) (fun _ _ _ h => h) (Or.inl ⟨by rfl, ?_⟩) (by assumption) ?_
  rotate_left
  · (intro wx hSw; (try dsimp only at hSw); go_simp; (try with_reducible rfl))
  (try simp only [Act.put, nA, nB, nC])
  refine wpAnyM_take 33 (v := ?_) rfl (by kernel_rfl) (fun _ _ _ h => h) (Or.inl ⟨by rfl, ?_⟩) (by assumption) ?_
  rotate_left
  · (intro wx hSw; (try dsimp only at hSw); go_simp; (try with_reducible rfl))
  (try simp only [Act.put, nA, nB, nC])
  refine wpAnyM_take 35 (v := ?_) rfl (by kernel_rfl) (fun _ _ _ h => h) (Or.inl ⟨by rfl, ?_⟩) (by assumption) ?_
  rotate_left
  · (intro wx hSw; (try dsimp only at hSw); go_simp; (try with_reducible rfl))
  (try simp only [Act.put, nA, nB, nC])
  refine wpAnyM_take 36 (v := ?_) rfl (by kernel_rfl) (fun _ _ _ h => h) (Or.inl ⟨by rfl, ?_⟩) (by assumption) ?_
  rotate_left
  · (intro wx hSw; (try dsimp only at hSw); go_simp; (try with_reducible rfl))
  (try simp only [Act.put, nA, nB, nC])
  refine wpAnyM_take 37 (v := ?_) rfl (by kernel_rfl) (fun _ _ _ h => h) (Or.inl ⟨by rfl, ?_⟩) (by assumption) ?_
  rotate_left
  · (intro wx hSw; (try dsimp only at hSw); go_simp; (try with_reducible rfl))
  (try simp only [Act.put, nA, nB, nC])
  refine wpAnyM_take 38 (v := ?_) rfl (by kernel_rfl) (fun _ _ _ h => h) (Or.inl ⟨by rfl, ?_⟩) (by assumption) ?_
  rotate_left
  · (intro wx hSw; (try dsimp only at hSw); go_simp; (try with_reducible rfl))
  (try simp only [Act.put, nA, nB, nC])
  refine wpAnyM_take 39 (v := ?_) rfl (by kernel_rfl) (fun _ _ _ h => h) (Or.inl ⟨by rfl, ?_⟩) (by assumption) ?_
  rotate_left
  · (intro wx hSw; (try dsimp only at hSw); go_simp; (try with_reducible rfl))
  (try simp only [Act.put, nA, nB, nC])
  refine wpAnyM_take 40 (v := ?_) rfl (by kernel_rfl) (fun _ _ _ h => h) (Or.inl ⟨by rfl, ?_⟩) (by assumption) ?_
  rotate_left
  · (intro wx hSw; (try dsimp only at hSw); go_simp; (try with_reducible rfl))
  (try simp only [Act.put, nA, nB, nC])
  refine wpAnyM_take 41 (v := ?_) rfl (by kernel_rfl) (fun _ _ _ h => h) (Or.inl ⟨by rfl, ?_⟩) (by assumption) ?_
  rotate_left
  · (intro wx hSw; (try dsimp only at hSw); go_simp; (try with_reducible rfl))
  (try simp only [Act.put, nA, nB, nC])
  refine wpAnyM_take 42 (v := ?_) rfl (by kernel_rfl) (fun _ _ _ h => h) (Or.inl ⟨by rfl, ?_⟩) (by assumption) ?_
  rotate_left
  · (intro wx hSw; (try dsimp only at hSw); go_simp; (try with_reducible rfl))
  (try simp only [Act.put, nA, nB, nC])
  refine wpAnyM_take 43 (v := ?_) rfl (by kernel_rfl) (fun _ _ _ h => h) (Or.inl ⟨by rfl, ?_⟩) (by assumption) ?_
  rotate_left
  · (intro wx hSw; (try dsimp only at hSw); go_simp; (try with_reducible rfl))
  (try simp only [Act.put, nA, nB, nC])
  refine wpAnyM_take 44 (v := ?_) rfl (by kernel_rfl) (fun _ _ _ h => h) (Or.inl ⟨by rfl, ?_⟩) (by assumption) ?_
  rotate_left
  · (intro wx hSw; (try dsimp only at hSw); go_simp; (try with_reducible rfl))
  (try simp only [Act.put, nA, nB, nC])
  refine wpAnyM_oneS 12 rfl (by kernel_rfl) (fun K hK => ?_)
  go_simp
  (refine (qdot_any c _ w.heap.size (w.heap.size + 1) F g0 (-g1) (-g2) (-g3) _ HS.out.qc).mono ?_); rintro e w4 ⟨rfl, hu⟩; have HT := Lib.hid (HS.out.upd' hu); clear HS hu; have HS := HT; clear HT
  (try dsimp only)
  (try simp only [Act.put, nA, nB, nC])
  clear hHeld
  refine hK.out _ _ ?_ (fun hHeld => ?_)
  · exact ⟨by rw [← HG.out.1.1]; exact HS.out.b.cell (by decide), by rw [← HG.out.1.2]; exact HS.out.b.cell (by decide), by rw [← HG.out.2.1]; exact HS.out.b.cell (by decide), by rw [← HG.out.2.2]; exact HS.out.b.cell (by decide)⟩
  clear hK K
  (try simp only [Act.put, nA, nB, nC])
  refine wpAnyM_oneS 23 rfl (by kernel_rfl) (fun K hK => ?_)
  go_simp
  (refine (qdot_any c _ w.heap.size (w.heap.size + 1) F g1 g0 g3 (-g2) _ HS.out.qc).mono ?_); rintro e w5 ⟨rfl, hu⟩; have HT := Lib.hid (HS.out.upd' hu); clear HS hu; have HS := HT; clear HT
  (try dsimp only)
  (try simp only [Act.put, nA, nB, nC])
  clear hHeld
  refine hK.out _ _ ?_ (fun hHeld => ?_)
  · exact ⟨by rw [← HG.out.1.1]; exact HS.out.b.cell (by decide), by rw [← HG.out.1.2]; exact HS.out.b.cell (by decide), by rw [← HG.out.2.1]; exact HS.out.b.cell (by decide), by rw [← HG.out.2.2]; exact HS.out.b.cell (by decide)⟩
  clear hK K
  (try simp only [Act.put, nA, nB, nC])
  refine wpAnyM_oneS 34 rfl (by kernel_rfl) (fun K hK => ?_)
  go_simp
  (refine (qdot_any c _ w.heap.size (w.heap.size + 1) F g2 (-g3) g0 g1 _ HS.out.qc).mono ?_); rintro e w6 ⟨rfl, hu⟩; have HT := Lib.hid (HS.out.upd' hu); clear HS hu; have HS := HT; clear HT
  (try dsimp only)
  (try simp only [Act.put, nA, nB, nC])
  clear hHeld
  refine hK.out _ _ ?_ (fun hHeld => ?_)
  · exact ⟨by rw [← HG.out.1.1]; exact HS.out.b.cell (by decide), by rw [← HG.out.1.2]; exact HS.out.b.cell (by decide), by rw [← HG.out.2.1]; exact HS.out.b.cell (by decide), by rw [← HG.out.2.2]; exact HS.out.b.cell (by decide)⟩
  clear hK K
  (try simp only [Act.put, nA, nB, nC])
  refine wpAnyM_oneS 45 rfl (by kernel_rfl) (fun K hK => ?_)
  go_simp
  (refine (qdot_any c _ w.heap.size (w.heap.size + 1) F g3 g2 (-g1) g0 _ HS.out.qc).mono ?_); rintro e w7 ⟨rfl, hu⟩; have HT := Lib.hid (HS.out.upd' hu); clear HS hu; have HS := HT; clear HT
  (try dsimp only)
  (try simp only [Act.put, nA, nB, nC])
  clear hHeld
  refine hK.out _ _ ?_ (fun hHeld => ?_)
  · exact ⟨by rw [← HG.out.1.1]; exact HS.out.b.cell (by decide), by rw [← HG.out.1.2]; exact HS.out.b.cell (by decide), by rw [← HG.out.2.1]; exact HS.out.b.cell (by decide), by rw [← HG.out.2.2]; exact HS.out.b.cell (by decide)⟩
  clear hK K
  (try simp only [Act.put, nA, nB, nC])
  refine wpAnyM_take 46 (v := ?_) rfl (by kernel_rfl) (fun _ _ _ h => h) (Or.inl ⟨by rfl, ?_⟩) (by assumption) ?_
  rotate_left
  · (intro wx hSw; refine Eq.trans (run_build_q4 (.tmp 27) (.tmp 38) (.tmp 49) (.tmp 60) (by rfl) (by rfl) (by rfl) (by rfl) (by rfl)) ?_; with_reducible rfl)
  (try simp only [Act.put, nA, nB, nC])
  refine wpAnyM_one 47 rfl (by kernel_rfl) (fun K hK => ?_)
  go_simp; rw [if_pos (arrv_size _ _), run_storeCells_row _ HS.out.r]; go_simp
  refine hK.out _ _ (.inl (by kernel_rfl)) (fun _ => ?_)
  clear hK K
  (try simp only [Act.put, nA, nB, nC])
  refine wpAnyM_done (by kernel_rfl) ?_ _
  have HV := Lib.hid (show arrv 4 (q4 (dotV 30 F (q4 g0 (-g1) (-g2) (-g3)) 4) (dotV 30 F (q4 g1 g0 g3 (-g2)) 4) (dotV 30 F (q4 g2 (-g3) g0 g1) 4) (dotV 30 F (q4 g3 g2 (-g1) g0) 4)) = arrv 4 (qmV A B) by
    rw [← HE.out.1, ← q4_eq (fun r => dotV 30 F (qmR G r) 4), ← HG.out.1.1, ← HG.out.1.2, ← HG.out.2.1, ← HG.out.2.2]; rfl)
  have r1 := HS.out.r.setRow (q4 (dotV 30 F (q4 g0 (-g1) (-g2) (-g3)) 4) (dotV 30 F (q4 g1 g0 g3 (-g2)) 4) (dotV 30 F (q4 g2 (-g3) g0 g1) 4) (dotV 30 F (q4 g3 g2 (-g1) g0) 4))
  have B1 := HS.out.upd.then' (below_row (Below.refl _ _) (show w.heap.size ≤ w.heap.size + 1 + 1 + 1 by omega) (arrv 4 (q4 (dotV 30 F (q4 g0 (-g1) (-g2) (-g3)) 4) (dotV 30 F (q4 g1 g0 g3 (-g2)) 4) (dotV 30 F (q4 g2 (-g3) g0 g1) 4) (dotV 30 F (q4 g3 g2 (-g1) g0) 4))))
  rw [HV.out] at r1 B1 ⊢
  have B2 : Upd c (h || qmH A B) w (w7.setRow (w.heap.size + 1 + 1 + 1) (arrv 4 (qmV A B))) := by
    rw [← HE.out.2]
    rw [show (H1 || orB (fun r => dotH 30 F (qmR G r) 4) 4) = (H1 || dotH 30 F (q4 g0 (-g1) (-g2) (-g3)) 4 || dotH 30 F (q4 g1 g0 g3 (-g2)) 4 || dotH 30 F (q4 g2 (-g3) g0 g1) 4 || dotH 30 F (q4 g3 g2 (-g1) g0) 4) by rw [← HG.out.1.1, ← HG.out.1.2, ← HG.out.2.1, ← HG.out.2.2]; simp [orB, qmR, Bool.or_assoc]]
    exact B1
  generalize w7.setRow (w.heap.size + 1 + 1 + 1) (arrv 4 (qmV A B)) = W8 at *
  go_wp2_with fail
  refine bodyPost_ret (results_cell_row Tryz.results23 _ _ (w.heap.size + 1 + 1 + 1) 38 (arrv 4 (qmV A B)) (0, 0) _ rfl (by rw [← HV.out]; exact r1) Tryz.underlying38 rfl (iqt.trans (by rw [arrv_size]))) rfl ⟨rfl, B2⟩
end Go.Proofs.YtgfklheepkgedaaGreat
/- Contracts of package rot: Of. -/
namespace Go.Proofs.YtgfklheepkgedaaGreat
open Go.RowKit
set_option maxRecDepth 100000
end Go.Proofs.YtgfklheepkgedaaGreat
