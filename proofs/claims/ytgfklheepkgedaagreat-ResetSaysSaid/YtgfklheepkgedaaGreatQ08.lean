/- Contracts of the program's functions and plain laws, part 8: they hold for all arguments. -/
import Derived.Test.YtgfklheepkgedaaGreatQ07
import Derived.Test.YtgfklheepkgedaaGreatQ06
import Derived.Test.YtgfklheepkgedaaGreatQ03
import Derived.Test.YtgfklheepkgedaaGreatProg
import Derived.Deep.AppendLies
import Derived.Deep.MidRow
import Derived.Test.YtgfklheepkgedaaGreatQ05
/- Contracts of package trig (2): Sin, Cos. -/
namespace Go.Proofs.YtgfklheepkgedaaGreat
open Go.RowKit
set_option maxRecDepth 100000
structure SnR (c : Addr) (h : Bool) (w wr : World) : Prop where
 upd : Upd c h w wr
 cell : wr.cell? c = some (.bool h)
 free : wr.frozen? c = false
theorem SnR.upd' {c : Addr} {h h' : Bool} {w wr w' : World} (s : SnR c h w wr) (u : Upd c h' wr w') : SnR c h' w w' :=
 ⟨s.upd.trans u, u.cellc s.cell, (u.frozen (World.block_lt_of_cell? _ _ s.cell)).trans s.free⟩
theorem SnR.down {c : Addr} {h : Bool} {w wr w' : World} (s : SnR c h w wr) (u : Below wr.heap.size wr w') : SnR c h w w' :=
 ⟨s.upd.then u, (u.cell (World.block_lt_of_cell? _ _ s.cell)).trans s.cell, (u.frozen (World.block_lt_of_cell? _ _ s.cell)).trans s.free⟩
theorem lst_sin (w : World) (T : TypeId) : Lst (w.alloc (.cells #[.int .i64 (-27), .int .i64 2959, .int .i64 (-213044), .int .i64 8947849, .int .i64 (-178956971), .int .i64 1073741824] T)) w.heap.size 0 (5 + 1) sinL := by
 intro i hi
 obtain rfl | rfl | rfl | rfl | rfl | rfl : i = 0 ∨ i = 1 ∨ i = 2 ∨ i = 3 ∨ i = 4 ∨ i = 5 := by omega
 all_goals simp [go_sem, sinL]
theorem lst_cos (w : World) (T : TypeId) : Lst (w.alloc (.cells #[.int .i64 2, .int .i64 (-296), .int .i64 26631, .int .i64 (-1491308), .int .i64 44739243, .int .i64 (-536870912), .int .i64 1073741824] T)) w.heap.size 0 (6 + 1) cosL := by
 intro i hi
 obtain rfl | rfl | rfl | rfl | rfl | rfl | rfl : i = 0 ∨ i = 1 ∨ i = 2 ∨ i = 3 ∨ i = 4 ∨ i = 5 ∨ i = 6 := by omega
 all_goals simp [go_sem, cosL]
set_option maxHeartbeats 8000000 in
/-- Of a folded angle. -/
theorem sin_walk (c : Addr) (h : Bool) (a A r W : Int) (w : World) (hc : w.cell? c = some (.bool h)) (hf : w.frozen? c = false) (hA : satV a = A) (hr : wrpV A = r) (hW : fldV r = W) :
  Calls Tryz.prog 46 #[.pointer (some c), .int .i64 a] w fun e w' => e = .returned (.int .i64 (oneC (qrtV W))) ∧ Upd c (h || satH a || qrtH W) w w' := by
 have br := wrpV_bd A
 rw [hr] at br
 have bW := fldV_bd br.1 br.2
 rw [hW] at bW
 have hW2 := hW
 unfold fldV at hW2
 have SC := sat_upd c h a w hc hf
 rw [hA] at SC
 obtain ⟨H1, hH1⟩ : ∃ x, (h || satH a) = x := ⟨_, rfl⟩
 rw [hH1] at SC ⊢
 have SC := Lib.hid SC
 have R0 := Lib.hid (show SnR c h w w from ⟨Upd.refl hc, hc, hf⟩)
 have WC := Lib.hid (fun (x : World) => wrap_any A x)
 rw [hr] at WC
 have cs : (decide (1686629713 < r) = true ∧ IntKind.i64.wrap (3373259426 - r) = W) ∨ (decide (1686629713 < r) = false ∧ decide (r < -1686629713) = true ∧ IntKind.i64.wrap (-3373259426 - r) = W) ∨ (decide (1686629713 < r) = false ∧ decide (r < -1686629713) = false ∧ W = r) := by
  by_cases h1 : 1686629713 < r
  ·rw [if_pos h1] at hW2
   exact .inl ⟨by simpa using h1, by rw [hW2]; exact IntWalk.i64_in _ (by omega)⟩
  ·rw [if_neg h1] at hW2
   by_cases h2 : r < -1686629713
   ·rw [if_pos h2] at hW2
    exact .inr (.inl ⟨by simpa using h1, by simpa using h2, by rw [hW2]; exact IntWalk.i64_in _ (by omega)⟩)
   ·rw [if_neg h2] at hW2
    exact .inr (.inr ⟨by simpa using h1, by simpa using h2, hW2.symm⟩)
 have QE := Lib.hid (show qrtV W = (if absV W ≤ 843314857 then sn1V W else if W < 0 then -cs1V (1686629713 - absV W) else cs1V (1686629713 - absV W)) ∧ qrtH W = if absV W ≤ 843314857 then sn1H W else cs1H (1686629713 - absV W) from ⟨rfl, rfl⟩)
 have bX : 0 ≤ absV W ∧ absV W ≤ 1686629713 := by unfold absV; rw [if_neg (by omega)]; split <;> omega
 have AC := fun (x : World) => fabs_any W x
 obtain ⟨X, hX⟩ : ∃ x, absV W = x := ⟨_, rfl⟩
 rw [hX] at bX AC QE
 have AC := Lib.hid AC
 have eX : IntKind.i64.wrap (1686629713 - X) = 1686629713 - X := IntWalk.i64_in _ (by omega)
 obtain ⟨Y, hY⟩ : ∃ x, 1686629713 - X = x := ⟨_, rfl⟩
 rw [hY] at eX QE
 have HY := Lib.hid hY
 obtain ⟨V, hV⟩ : ∃ x, qrtV W = x := ⟨_, rfl⟩
 obtain ⟨HQ, hHQ⟩ : ∃ x, qrtH W = x := ⟨_, rfl⟩
 rw [hV, hHQ] at QE ⊢
 have Cbd := cs1V_bd Y
 have eC : IntKind.i64.wrap (-(cs1V Y)) = -(cs1V Y) := IntWalk.i64_in _ (by omega)
 have QF : Hid ((X ≤ 843314857 → V = sn1V W ∧ (H1 || HQ) = (H1 || mulH W W 30 || serH (mulV W W 30) sinL 5 || mulH W (serV (mulV W W 30) sinL 5) 30)) ∧ (¬ X ≤ 843314857 → (H1 || HQ) = (H1 || mulH Y Y 30 || serH (mulV Y Y 30) cosL 6) ∧ (W < 0 → V = -cs1V Y) ∧ (¬ W < 0 → V = cs1V Y))) := by
  refine Lib.hid ⟨fun hx => ?_, fun hx => ?_⟩
  ·rw [QE.out.1, QE.out.2, if_pos hx, if_pos hx]; unfold sn1H; exact ⟨rfl, by simp [Bool.or_assoc]⟩
  ·rw [QE.out.1, QE.out.2, if_neg hx, if_neg hx]; unfold cs1H; exact ⟨by simp [Bool.or_assoc], fun h => by rw [if_pos h], fun h => by rw [if_neg h]⟩
 have EO := Lib.hid (show oneC V = min (max V (-1073741824)) 1073741824 from rfl)
 clear QE Cbd
 clear hY hX hV hHQ hA hr hW hW2 hH1 bW br hc hf
 go_enter Tryz.func46, Tryz.ntmps46
 go_upto_region 2 with (first | (go_at_call 81; (refine SC.out.mono ?_); rintro e w1 ⟨rfl, hu1⟩; have R1 := Lib.hid (R0.out.upd' hu1); clear hu1 SC R0) | (go_at_call 44; (refine (WC.out _).mono ?_); rintro e w2 ⟨rfl, rfl⟩))
 by_cases hx : X ≤ 843314857
 ·have dx : decide (X ≤ 843314857) = true := by simpa using hx
  have QG := Lib.hid (QF.out.1 hx)
  clear QF hx eC
  obtain ⟨z, hz⟩ : ∃ x, mulV W W 30 = x := ⟨_, rfl⟩
  obtain ⟨s, hs⟩ : ∃ x, serV z sinL 5 = x := ⟨_, rfl⟩
  rw [hz, hs] at QG
  have HZ := Lib.hid hz
  have HS := Lib.hid hs
  clear hz hs
  rcases cs with ⟨d1, e1⟩ | ⟨d1, d2, e1⟩ | ⟨d1, d2, rfl⟩
  all_goals
   go_upto_region 13 with (go_at_call 77; (refine (AC.out _).mono ?_); rintro e w3 ⟨rfl, rfl⟩)
   refine wp_region_lit ?_
   refine tv ?_
   (try simp only [Act.put, nA, nB, nC])
   refine tv ?_
   (try simp only [Act.put, nA, nB, nC])
   refine tv ?_
   (try simp only [Act.put, nA, nB, nC])
   refine tv ?_
   (try simp only [Act.put, nA, nB, nC])
   refine tv ?_
   (try simp only [Act.put, nA, nB, nC])
   refine tv ?_
   (try simp only [Act.put, nA, nB, nC])
   refine wpList_step (fun K hK => ?_)
   go_simp
   (refine (tm_any c H1 W W _ R1.out.cell R1.out.free).mono ?_); rintro e w4 ⟨rfl, hu⟩; (rw [HZ.out]); have R4 := Lib.hid (R1.out.upd' hu); clear hu R1
   (try dsimp only)
   (try simp only [Act.put, nA, nB, nC])
   refine hK _ _ ?_
   clear hK K
   refine wpList_act (v := ?_) (w' := ?_) rfl ?_ ?_
   rotate_left 2
   ·(go_simp; (try (first | with_reducible rfl | (constructor <;> with_reducible rfl))))
   (try simp only [Act.put, nA, nB, nC])
   refine wpList_step (fun K hK => ?_)
   go_simp
   have R5 := Lib.hid (R4.out.down (Below.alloc (Below.refl _ _) (Nat.le_refl _) (.cells #[.int .i64 (-27), .int .i64 2959, .int .i64 (-213044), .int .i64 8947849, .int .i64 (-178956971), .int .i64 1073741824] 2))); (refine (series_any c _ z sinL w4.heap.size 0 6 5 _ R5.out.cell R5.out.free (by decide) (by decide) (by decide) (lst_sin w4 _)).mono ?_); rintro e w5 ⟨rfl, hu⟩; (rw [HS.out]); have R6 := Lib.hid (R5.out.upd' hu); clear hu R4 R5
   (try dsimp only)
   (try simp only [Act.put, nA, nB, nC])
   refine hK _ _ ?_
   clear hK K
   refine wpList_step (fun K hK => ?_)
   go_simp
   (refine (tm_any c _ W s _ R6.out.cell R6.out.free).mono ?_); rintro e w6 ⟨rfl, hu⟩; have R7 := Lib.hid (R6.out.upd' hu); clear hu R6
   (try dsimp only)
   (try simp only [Act.put, nA, nB, nC])
   refine hK _ _ ?_
   clear hK K
   refine tv ?_
   (try simp only [Act.put, nA, nB, nC])
   refine wpList_nil ?_
   obtain ⟨v, hv⟩ : ∃ x, mulV W s 30 = x := ⟨_, rfl⟩
   rw [hv]
   have EV := Lib.hid (show V = v by rw [QG.out.1, ← hv, ← HS.out, ← HZ.out]; rfl)
   clear hv
   go_wp2_with fail
   go_ret
   exact ⟨by rw [EO.out, EV.out]; rfl, by rw [QG.out.2]; exact R7.out.upd⟩
 ·have dx : decide (X ≤ 843314857) = false := by simpa using hx
  have QG := Lib.hid (QF.out.2 (by omega))
  clear QF hx
  obtain ⟨z, hz⟩ : ∃ x, mulV Y Y 30 = x := ⟨_, rfl⟩
  obtain ⟨s, hs⟩ : ∃ x, cs1V Y = x := ⟨_, rfl⟩
  have hs2 : serV z cosL 6 = s := by rw [← hz]; exact hs
  rw [hz, hs] at QG
  rw [hs] at eC
  have HZ := Lib.hid hz
  have HS := Lib.hid hs2
  clear hz hs hs2
  have dn : (decide (W < 0) = true ∧ V = -s) ∨ (decide (W < 0) = false ∧ V = s) := by
   by_cases h : W < 0
   ·exact .inl ⟨by simpa using h, QG.out.2.1 h⟩
   ·exact .inr ⟨by simpa using h, QG.out.2.2 (by omega)⟩
  have QK := Lib.hid QG.out.1
  clear QG
  rcases cs with ⟨d1, e1⟩ | ⟨d1, d2, e1⟩ | ⟨d1, d2, rfl⟩
  all_goals
   go_upto_region 9 with (go_at_call 77; (refine (AC.out _).mono ?_); rintro e w3 ⟨rfl, rfl⟩)
   refine wp_region_lit ?_
   refine tv ?_
   (try simp only [Act.put, nA, nB, nC])
   refine tv ?_
   (try simp only [Act.put, nA, nB, nC])
   refine tv ?_
   (try simp only [Act.put, nA, nB, nC])
   refine tv ?_
   (try simp only [Act.put, nA, nB, nC])
   refine wpList_step (fun K hK => ?_)
   go_simp
   (simp only [HY.out]); (refine (tm_any c H1 Y Y _ R1.out.cell R1.out.free).mono ?_); rintro e w4 ⟨rfl, hu⟩; (rw [HZ.out]); have R4 := Lib.hid (R1.out.upd' hu); clear hu R1
   (try dsimp only)
   (try simp only [Act.put, nA, nB, nC])
   refine hK _ _ ?_
   clear hK K
   refine wpList_act (v := ?_) (w' := ?_) rfl ?_ ?_
   rotate_left 2
   ·(go_simp; (try (first | with_reducible rfl | (constructor <;> with_reducible rfl))))
   (try simp only [Act.put, nA, nB, nC])
   refine wpList_step (fun K hK => ?_)
   go_simp
   have R5 := Lib.hid (R4.out.down (Below.alloc (Below.refl _ _) (Nat.le_refl _) (.cells #[.int .i64 2, .int .i64 (-296), .int .i64 26631, .int .i64 (-1491308), .int .i64 44739243, .int .i64 (-536870912), .int .i64 1073741824] 2))); (refine (series_any c _ z cosL w4.heap.size 0 7 6 _ R5.out.cell R5.out.free (by decide) (by decide) (by decide) (lst_cos w4 _)).mono ?_); rintro e w5 ⟨rfl, hu⟩; (rw [HS.out]); have R6 := Lib.hid (R5.out.upd' hu); clear hu R4 R5
   (try dsimp only)
   (try simp only [Act.put, nA, nB, nC])
   refine hK _ _ ?_
   clear hK K
   refine tv ?_
   (try simp only [Act.put, nA, nB, nC])
   refine wpList_nil ?_
   rcases dn with ⟨q1, EV⟩ | ⟨q1, EV⟩
   all_goals
    have EV := Lib.hid EV
    go_wp2_with fail
    go_ret
    exact ⟨by (first | (rw [show oneC V = min (-min s 1073741824) 1073741824 by rw [EO.out, EV.out]; omega]; rfl) | (rw [EO.out, EV.out]; rfl)), by rw [QK.out]; exact R6.out.upd⟩
theorem sin_any (c : Addr) (h : Bool) (a : Int) (w : World) (hc : w.cell? c = some (.bool h)) (hf : w.frozen? c = false) :
  Calls Tryz.prog 46 #[.pointer (some c), .int .i64 a] w fun e w' => e = .returned (.int .i64 (sinV a)) ∧ Upd c (h || sinH a) w w' := by
 refine (sin_walk c h a _ _ _ w hc hf rfl rfl rfl).mono ?_
 rintro e w' ⟨rfl, hu⟩
 refine ⟨rfl, ?_⟩
 rw [show (h || sinH a) = (h || satH a || qrtH (fldV (wrpV (satV a)))) by unfold sinH; simp [Bool.or_assoc]]
 exact hu
theorem cos_any (c : Addr) (h : Bool) (a : Int) (w : World) (hc : w.cell? c = some (.bool h)) (hf : w.frozen? c = false) :
  Calls Tryz.prog 45 #[.pointer (some c), .int .i64 a] w fun e w' => e = .returned (.int .i64 (cosV a)) ∧ Upd c (h || cosH a) w w' := by
 have br := wrpV_bd a
 have WC := fun (x : World) => wrap_any a x
 have SC := sin_any c h (1686629713 + wrpV a) w hc hf
 rw [show cosV a = sinV (1686629713 + wrpV a) from rfl, show cosH a = sinH (1686629713 + wrpV a) from rfl]
 obtain ⟨r, hr⟩ : ∃ x, wrpV a = x := ⟨_, rfl⟩
 rw [hr] at WC SC br ⊢
 have WC := Lib.hid WC
 have e1 : IntKind.i64.wrap (1686629713 + r) = 1686629713 + r := IntWalk.i64_in _ (by omega)
 obtain ⟨q, hq⟩ : ∃ x, 1686629713 + r = x := ⟨_, rfl⟩
 rw [hq] at SC e1 ⊢
 rw [← hq] at e1
 have SC := Lib.hid SC
 have HQ := Lib.hid hq
 clear hr hq br hc hf
 go_enter Tryz.func45, Tryz.ntmps45
 go_wp2_with (first | (go_at_call 44; (refine (WC.out _).mono ?_); rintro e w2 ⟨rfl, rfl⟩) | (go_at_call 46; (try rw [HQ.out]); (refine SC.out.mono ?_); rintro e w3 ⟨rfl, hu1⟩))
 go_ret
 exact ⟨rfl, hu1⟩
end Go.Proofs.YtgfklheepkgedaaGreat
/- Contract of quat.Mul. -/
namespace Go.Proofs.YtgfklheepkgedaaGreat
open Go.RowKit
set_option maxRecDepth 100000
theorem lst4 (w : World) (T : TypeId) (a b c d : Int) : ∀ i, i < 4 → (w.alloc (.cells #[.int .i64 a, .int .i64 b, .int .i64 c, .int .i64 d] T)).cell? ⟨w.heap.size, 0 + i, none⟩ = some (.int .i64 (q4 a b c d i)) := by
 intro i hi
 obtain rfl | rfl | rfl | rfl : i = 0 ∨ i = 1 ∨ i = 2 ∨ i = 3 := by omega
 all_goals simp [go_sem, q4]
theorem q4_eq (F : Nat → Int) : arrv 4 (q4 (F 0) (F 1) (F 2) (F 3)) = arrv 4 F := arrv_congr fun i hi => by
 obtain rfl | rfl | rfl | rfl : i = 0 ∨ i = 1 ∨ i = 2 ∨ i = 3 := by omega
 all_goals rfl
open Go in
theorem run_build_q4 {o : Oper} {ev : Operand → Value} {w : World} (x y z u : Operand) (ho : o.op = .build 38 #[(0, x), (1, y), (2, z), (3, u)]) {a b c d : Int} (hx : ev x = .int .i64 a) (hy : ev y = .int .i64 b) (hw : ev z = .int .i64 c) (hu : ev u = .int .i64 d) :
  (execOp ev o).run Tryz.prog w = .ok (.value (.agg (arrv 4 (q4 a b c d)))) w := by
 unfold execOp
 simp only [ho, List.map_toArray, List.map_cons, List.map_nil, hx, hy, hw, hu]
 kernel_rfl
/-- What a closure of quaternions holds: the flag's pointer in a box, the quaternion. -/
structure QcR (c : Addr) (h : Bool) (cb ab : Nat) (q : Nat → Int) (w wr : World) : Prop where
 upd : Upd c h w wr
 ptr : wr.cell? ⟨cb, 0, none⟩ = some (.pointer (some c))
 a : Blk wr ab 38 4 q
 cell : wr.cell? c = some (.bool h)
 free : wr.frozen? c = false
theorem QcR.upd' {c : Addr} {h h' : Bool} {cb ab : Nat} {q : Nat → Int} {w wr w' : World} (s : QcR c h cb ab q w wr) (u : Upd c h' wr w') : QcR c h' cb ab q w w' :=
 ⟨s.upd.trans u, by rw [u.cell (World.block_lt_of_cell? _ _ s.ptr) (fun e => by have := s.cell; rw [e, s.ptr] at this; cases this)]; exact s.ptr, s.a.upd u (fun e => s.a.flag s.cell (by rw [e])), u.cellc s.cell, (u.frozen (World.block_lt_of_cell? _ _ s.cell)).trans s.free⟩
theorem QcR.down {c : Addr} {h : Bool} {cb ab : Nat} {q : Nat → Int} {w wr w' : World} (s : QcR c h cb ab q w wr) (u : Below wr.heap.size wr w') : QcR c h cb ab q w w' :=
 ⟨s.upd.then u, (u.cell (World.block_lt_of_cell? _ _ s.ptr)).trans s.ptr, s.a.below u, (u.cell (World.block_lt_of_cell? _ _ s.cell)).trans s.cell, (u.frozen (World.block_lt_of_cell? _ _ s.cell)).trans s.free⟩
theorem QcR.drew {c : Addr} {h : Bool} {cb ab : Nat} {q : Nat → Int} {w wr : World} (s : QcR c h cb ab q w wr) : QcR c h cb ab q w wr.drew := s.down (Below.drew (Below.refl _ _))
set_option maxHeartbeats 4000000 in
theorem qdot_any (c : Addr) (h : Bool) (cb ab : Nat) (q : Nat → Int) (x0 x1 x2 x3 : Int) (w : World) (S0 : QcR c h cb ab q w w) :
  Calls Tryz.prog 50 #[.int .i64 x0, .int .i64 x1, .int .i64 x2, .int .i64 x3, .pointer (some ⟨cb, 0, none⟩), .pointer (some ⟨ab, 0, none⟩)] w fun e w' =>
   e = .returned (.int .i64 (dotV 30 q (q4 x0 x1 x2 x3) 4)) ∧ Upd c (h || dotH 30 q (q4 x0 x1 x2 x3) 4) w w' := by
 have HS := Lib.hid S0.drew
 clear S0
 go_enter Tryz.func50, Tryz.ntmps50
 go_upto_region 1 with fail
 refine wp_region_M (fun w' => w'.cell? ⟨cb, 0, none⟩ = some (.pointer (some c))) 8 (by kernel_rfl) ?_ (fun hHeld => ?_)
 ·exact HS.out.ptr
 refine tk 0 ?_
 (try simp only [Act.put, nA, nB, nC])
 refine tk 1 ?_
 (try simp only [Act.put, nA, nB, nC])
 refine tk 2 ?_
 (try simp only [Act.put, nA, nB, nC])
 refine tk 3 ?_
 (try simp only [Act.put, nA, nB, nC])
 refine tk 4 ?_
 (try simp only [Act.put, nA, nB, nC])
 refine tk 5 ?_
 (try simp only [Act.put, nA, nB, nC])
 refine wpAnyM_oneS 6 rfl (by kernel_rfl) (fun K hK => ?_)
 go_simp; have HT := Lib.hid (HS.out.down (Below.alloc (Below.refl _ _) (Nat.le_refl _) (.cells #[.int .i64 x0, .int .i64 x1, .int .i64 x2, .int .i64 x3] 2))); have L4 := Lib.hid (lst4 w.drew 2 x0 x1 x2 x3); clear HS; have HS := HT; clear HT
 clear hHeld
 refine hK.out _ _ ?_ (fun hHeld => ?_)
 ·exact HS.out.ptr
 clear hK K
 (try simp only [Act.put, nA, nB, nC])
 refine wpAnyM_oneS 7 rfl (by kernel_rfl) (fun K hK => ?_)
 go_simp
 (refine (dot_any c h 30 q (q4 x0 x1 x2 x3) ab 0 4 w.drew.heap.size 0 4 4 _ HS.out.cell HS.out.free (by decide) (by decide) (by decide) (fun i hi => by rw [Nat.zero_add]; exact HS.out.a.cell hi) L4.out).mono ?_); rintro e w2 ⟨rfl, hu⟩; have HT := Lib.hid (HS.out.upd' hu); clear HS L4 hu; have HS := HT; clear HT
 (try dsimp only)
 (try simp only [Act.put, nA, nB, nC])
 clear hHeld
 refine hK.out _ _ ?_ (fun hHeld => ?_)
 ·exact HS.out.ptr
 clear hK K
 (try simp only [Act.put, nA, nB, nC])
 refine wpAnyM_one 8 rfl (by kernel_rfl) (fun K hK => ?_)
 go_simp
 refine hK.out _ _ (.inl (by kernel_rfl)) (fun _ => ?_)
 clear hK K
 (try simp only [Act.put, nA, nB, nC])
 refine wpAnyM_done (by kernel_rfl) ?_ _
 go_wp2_with fail
 go_ret
 exact ⟨rfl, HS.out.upd⟩
end Go.Proofs.YtgfklheepkgedaaGreat
/- Contract of quat.Mul (2). -/
namespace Go.Proofs.YtgfklheepkgedaaGreat
open Go.RowKit
set_option maxRecDepth 100000
/-- The blocks of quat.Mul. -/
structure QmR (c : Addr) (h : Bool) (A B : Nat → Int) (w wr : World) : Prop where
 upd : Upd c h w wr
 ptr : wr.cell? ⟨w.heap.size, 0, none⟩ = some (.pointer (some c))
 a : Blk wr (w.heap.size + 1) 38 4 A
 b : Blk wr (w.heap.size + 1 + 1) 38 4 B
 r : Blk wr (w.heap.size + 1 + 1 + 1) 38 4 (fun _ => 0)
 cell : wr.cell? c = some (.bool h)
 free : wr.frozen? c = false
 cb : c.block < w.heap.size
theorem QmR.upd' {c : Addr} {h h' : Bool} {A B : Nat → Int} {w wr w' : World} (s : QmR c h A B w wr) (u : Upd c h' wr w') : QmR c h' A B w w' := by
 have hcb := s.cb
 exact ⟨s.upd.trans u, by rw [u.cell (World.block_lt_of_cell? _ _ s.ptr) (fun e => by rw [e] at hcb; exact absurd hcb (by simp))]; exact s.ptr, s.a.upd u (by omega), s.b.upd u (by omega), s.r.upd u (by omega), u.cellc s.cell, (u.frozen (World.block_lt_of_cell? _ _ s.cell)).trans s.free, s.cb⟩
theorem QmR.down {c : Addr} {h : Bool} {A B : Nat → Int} {w wr w' : World} (s : QmR c h A B w wr) (u : Below wr.heap.size wr w') : QmR c h A B w w' :=
 ⟨s.upd.then u, (u.cell (World.block_lt_of_cell? _ _ s.ptr)).trans s.ptr, s.a.below u, s.b.below u, s.r.below u, (u.cell (World.block_lt_of_cell? _ _ s.cell)).trans s.cell, (u.frozen (World.block_lt_of_cell? _ _ s.cell)).trans s.free, s.cb⟩
theorem QmR.drew {c : Addr} {h : Bool} {A B : Nat → Int} {w wr : World} (s : QmR c h A B w wr) : QmR c h A B w wr.drew := s.down (Below.drew (Below.refl _ _))
theorem cell_row_other {w : World} {g : Nat} (cs : Array Value) {p : Addr} (h : p.block ≠ g) : (w.setRow g cs).cell? p = w.cell? p ∧ (w.setRow g cs).frozen? p = w.frozen? p := by
 have e := Go.setRow_other w g p.block cs h
 constructor
 ·simp only [World.cell?, e]
 ·simp only [World.frozen?, e]
theorem QmR.rowA {c : Addr} {h : Bool} {A B : Nat → Int} {w wr : World} (s : QmR c h A B w wr) (F : Nat → Int) : QmR c h F B w (wr.setRow (w.heap.size + 1) (arrv 4 F)) := by
 have hcb := s.cb
 exact ⟨s.upd.then' (below_row (Below.refl _ _) (by omega) _), by rw [(cell_row_other _ (by simp)).1]; exact s.ptr, s.a.setRow F, s.b.setRow_other _ (by omega), s.r.setRow_other _ (by omega), by rw [(cell_row_other _ (by omega)).1]; exact s.cell, by rw [(cell_row_other _ (by omega)).2]; exact s.free, s.cb⟩
theorem QmR.rowB {c : Addr} {h : Bool} {A B : Nat → Int} {w wr : World} (s : QmR c h A B w wr) (F : Nat → Int) : QmR c h A F w (wr.setRow (w.heap.size + 1 + 1) (arrv 4 F)) := by
 have hcb := s.cb
 exact ⟨s.upd.then' (below_row (Below.refl _ _) (by omega) _), by rw [(cell_row_other _ (by simp; omega)).1]; exact s.ptr, s.a.setRow_other _ (by omega), s.b.setRow F, s.r.setRow_other _ (by omega), by rw [(cell_row_other _ (by omega)).1]; exact s.cell, by rw [(cell_row_other _ (by omega)).2]; exact s.free, s.cb⟩
theorem QmR.qc {c : Addr} {h : Bool} {A B : Nat → Int} {w wr : World} (s : QmR c h A B w wr) : QcR c h w.heap.size (w.heap.size + 1) A wr wr := ⟨Upd.refl s.cell, s.ptr, s.a, s.cell, s.free⟩
theorem qm_start (c : Addr) (h : Bool) (A B : Nat → Int) (w : World) (hc : w.cell? c = some (.bool h)) (hf : w.frozen? c = false) :
  QmR c h A B w ((((w.alloc (.cells #[.pointer (some c)] 30)).alloc (.cells (arrv 4 A) 38)).alloc (.cells (arrv 4 B) 38)).alloc (.cells #[.int .i64 0, .int .i64 0, .int .i64 0, .int .i64 0] 38)) := by
 have hcb := World.block_lt_of_cell? w c hc
 have bl : Below w.heap.size w ((((w.alloc (.cells #[.pointer (some c)] 30)).alloc (.cells (arrv 4 A) 38)).alloc (.cells (arrv 4 B) 38)).alloc (.cells #[.int .i64 0, .int .i64 0, .int .i64 0, .int .i64 0] 38)) := by (repeat (first | with_reducible exact Below.refl _ _ | with_reducible apply Below.drew | (with_reducible refine below_drewN ?_ _) | (with_reducible refine Below.alloc ?_ (by (try simp) <;> omega) _) | (with_reducible refine Below.setCell ?_ (by (try simp) <;> omega) _)))
 refine ⟨Upd.then (Upd.refl hc) bl, ?_, ?_, ?_, ?_, (bl.cell hcb).trans hc, (bl.frozen hcb).trans hf, hcb⟩
 ·simp [go_sem]
 ·exact ((Blk.new1 w _ _ 4 A).alloc _).alloc _
 ·exact (blk_new2 w _ _ _ 4 B).alloc _
 ·rw [zq4]; exact blk_new3 w _ _ _ _ 4 _
set_option maxHeartbeats 8000000 in
theorem qmul_any (c : Addr) (h : Bool) (A B : Nat → Int) (w : World) (hc : w.cell? c = some (.bool h)) (hf : w.frozen? c = false) :
  Calls Tryz.prog 23 #[.pointer (some c), .agg (arrv 4 A), .agg (arrv 4 B)] w fun e w' => e = .returned (.agg (arrv 4 (qmV A B))) ∧ Upd c (h || qmH A B) w w' := by
 have hmf : ∀ (fn : Fn) (first cap : Array Value) (w : World), (Instr.makeFunc fn first cap).run Tryz.prog w = .ok (.func fn first cap) w := fun _ _ _ _ => rfl
 have S0 := Lib.hid (qm_start c h A B w hc hf)
 clear hc hf
 go_enter Tryz.func23, Tryz.ntmps23
 go_upto_region 1 with fail
 generalize (((w.alloc (.cells #[.pointer (some c)] 30)).alloc (.cells (arrv 4 A) 38)).alloc (.cells (arrv 4 B) 38)).alloc (.cells #[.int .i64 0, .int .i64 0, .int .i64 0, .int .i64 0] 38) = W0 at *
 have HS := Lib.hid S0.out.drew
 clear S0
 refine wp_region_M (fun w' => w'.cell? ⟨w.heap.size, 0, none⟩ = some (.pointer (some c)) ∧ Blk w' (w.heap.size + 1) 38 4 A ∧ Blk w' (w.heap.size + 1 + 1) 38 4 B) 5 (by kernel_rfl) ?_ (fun hHeld => ?_)
 ·exact ⟨HS.out.ptr, HS.out.a, HS.out.b⟩
 refine wpAnyM_take2 2 0 (v := ?_) rfl (by kernel_rfl) (fun _ _ _ h => h) (Or.inl ⟨by rfl, ?_⟩) (by assumption) ?_
 rotate_left
 ·(intro wx hSw; have h0 := hSw.1; go_simp; (try with_reducible rfl))
 (try simp only [Act.put, nA, nB, nC])
 refine wpAnyM_take2 2 1 (v := ?_) rfl (by kernel_rfl) (fun _ _ _ h => h) (Or.inl ⟨by rfl, ?_⟩) (by assumption) ?_
 rotate_left
 ·(intro wx hSw; refine Eq.trans (run_load_row 38 (.tmp 4) (by rfl) (w.heap.size + 1) (by rfl) _ _ _ _ (hSw.2.1) Tryz.underlying38 rfl (iqt.trans (by rw [arrv_size]))) ?_; with_reducible rfl)
 (try simp only [Act.put, nA, nB, nC])
 refine tl 3 (v := ?_) ?_ ?_
 rotate_left
 ·(intro wx hSw; have h0 := hSw.1; go_simp; (try with_reducible rfl))
 (try simp only [Act.put, nA, nB, nC])
 refine tl 4 (v := ?_) ?_ ?_
 rotate_left
 ·(intro wx hSw; refine Eq.trans (run_load_row 38 (.tmp 5) (by rfl) (w.heap.size + 1 + 1) (by rfl) _ _ _ _ (hSw.2.2) Tryz.underlying38 rfl (iqt.trans (by rw [arrv_size]))) ?_; with_reducible rfl)
 (try simp only [Act.put, nA, nB, nC])
 refine wpAnyM_oneS 2 rfl (by kernel_rfl) (fun K hK => ?_)
 go_simp
 (refine (qsat_any c _ A _ HS.out.cell HS.out.free).mono ?_); rintro e w1 ⟨rfl, hu⟩; have HT := Lib.hid (HS.out.upd' hu); clear HS hu; have HS := HT; clear HT
 (try dsimp only)
 (try simp only [Act.put, nA, nB, nC])
 clear hHeld
 refine hK.out _ _ ?_ (fun hHeld => ?_)
 ·exact ⟨HS.out.ptr, HS.out.a, HS.out.b⟩
 clear hK K
 (try simp only [Act.put, nA, nB, nC])
 refine wpAnyM_one 5 rfl (by kernel_rfl) (fun K hK => ?_)
 go_simp
 (refine (qsat_any c _ B _ HS.out.cell HS.out.free).mono ?_); rintro e w2 ⟨rfl, hu⟩; have HT := Lib.hid (HS.out.upd' hu); clear HS hu; have HS := HT; clear HT
 (try dsimp only)
 (try simp only [Act.put, nA, nB, nC])
 refine hK.out _ _ (.inl (by kernel_rfl)) (fun _ => ?_)
 clear hK K
 (try simp only [Act.put, nA, nB, nC])
 refine wpAnyM_switch (fun _ => True) 7 (by kernel_rfl) ?_ (fun hHeld => ?_)
 ·trivial
 refine wpAnyM_oneS 6 rfl (by kernel_rfl) (fun K hK => ?_)
 go_simp; rw [if_pos (arrv_size _ _), run_storeCells_row _ HS.out.a]; go_simp; have HT := Lib.hid (HS.out.rowA (satA A)); clear HS; have HS := HT; clear HT
 clear hHeld
 refine hK.out _ _ ?_ (fun hHeld => ?_)
 ·trivial
 clear hK K
 (try simp only [Act.put, nA, nB, nC])
 refine wpAnyM_one 7 rfl (by kernel_rfl) (fun K hK => ?_)
 go_simp; rw [if_pos (arrv_size _ _), run_storeCells_row _ HS.out.b]; go_simp; have HT := Lib.hid (HS.out.rowB (satA B)); clear HS; have HS := HT; clear HT
 refine hK.out _ _ (.inl (by kernel_rfl)) (fun _ => ?_)
 clear hK K
 (try simp only [Act.put, nA, nB, nC])
 refine wpAnyM_switch (fun _ => True) 7 (by kernel_rfl) ?_ (fun hHeld => ?_)
 ·trivial
 refine wpAnyM_done (by kernel_rfl) ?_ _
 generalize (w2.setRow (w.heap.size + 1) (arrv 4 (satA A))).setRow (w.heap.size + 1 + 1) (arrv 4 (satA B)) = W3 at *
 have bb : ∀ i, -1152921504606846976 ≤ satA B i ∧ satA B i ≤ 1152921504606846976 := fun i => satV_bd _
 obtain ⟨F, hF⟩ : ∃ x, satA A = x := ⟨_, rfl⟩
 obtain ⟨G, hG⟩ : ∃ x, satA B = x := ⟨_, rfl⟩
 obtain ⟨H1, hH1⟩ : ∃ x, (h || orB (fun i => satH (A i)) 4 || orB (fun i => satH (B i)) 4) = x := ⟨_, rfl⟩
 rw [hF, hG, hH1] at HS
 rw [hG] at bb
 have HE := Lib.hid (show (fun r => dotV 30 F (qmR G r) 4) = qmV A B ∧ (H1 || orB (fun r => dotH 30 F (qmR G r) 4) 4) = (h || qmH A B) by
  rw [← hF, ← hG, ← hH1]; exact ⟨rfl, by unfold qmH; simp [Bool.or_assoc]⟩)
 clear hF hG hH1
 have e1 : IntKind.i64.wrap (-(G 1)) = -(G 1) := IntWalk.i64_in _ (by have := bb 1; omega)
 have e2 : IntKind.i64.wrap (-(G 2)) = -(G 2) := IntWalk.i64_in _ (by have := bb 2; omega)
 have e3 : IntKind.i64.wrap (-(G 3)) = -(G 3) := IntWalk.i64_in _ (by have := bb 3; omega)
 obtain ⟨g0, h0⟩ : ∃ x, G 0 = x := ⟨_, rfl⟩
 obtain ⟨g1, h1⟩ : ∃ x, G 1 = x := ⟨_, rfl⟩
 obtain ⟨g2, h2⟩ : ∃ x, G 2 = x := ⟨_, rfl⟩
 obtain ⟨g3, h3⟩ : ∃ x, G 3 = x := ⟨_, rfl⟩
 rw [h1] at e1
 rw [h2] at e2
 rw [h3] at e3
 have HG := Lib.hid (And.intro (And.intro h0 h1) (And.intro h2 h3))
 clear h0 h1 h2 h3 bb
 go_upto_region 3 with fail
 have HT := Lib.hid HS.out.drew
 clear HS
 have HS := HT
 clear HT
 refine wp_region_M (fun w' => w'.cell? ⟨w.heap.size + 1 + 1, 0, none⟩ = some (.int .i64 g0) ∧ w'.cell? ⟨w.heap.size + 1 + 1, 1, none⟩ = some (.int .i64 g1) ∧ w'.cell? ⟨w.heap.size + 1 + 1, 2, none⟩ = some (.int .i64 g2) ∧ w'.cell? ⟨w.heap.size + 1 + 1, 3, none⟩ = some (.int .i64 g3)) 47 (by kernel_rfl) ?_ (fun hHeld => ?_)
 ·exact ⟨by rw [← HG.out.1.1]; exact HS.out.b.cell (by decide), by rw [← HG.out.1.2]; exact HS.out.b.cell (by decide), by rw [← HG.out.2.1]; exact HS.out.b.cell (by decide), by rw [← HG.out.2.2]; exact HS.out.b.cell (by decide)⟩
 refine tk 0 ?_
 (try simp only [Act.put, nA, nB, nC])
 refine tk 1 ?_
 (try simp only [Act.put, nA, nB, nC])
 refine tk 2 ?_
 (try simp only [Act.put, nA, nB, nC])
 refine tk 3 ?_
 (try simp only [Act.put, nA, nB, nC])
 refine tk 4 ?_
 (try simp only [Act.put, nA, nB, nC])
 refine tk 5 ?_
 (try simp only [Act.put, nA, nB, nC])
 refine tk 6 ?_
 (try simp only [Act.put, nA, nB, nC])
 refine tk 7 ?_
 (try simp only [Act.put, nA, nB, nC])
 refine tk 8 ?_
 (try simp only [Act.put, nA, nB, nC])
 refine tk 9 ?_
 (try simp only [Act.put, nA, nB, nC])
 refine tk 10 ?_
 (try simp only [Act.put, nA, nB, nC])
 refine tk 11 ?_
 (try simp only [Act.put, nA, nB, nC])
 refine tk 13 ?_
 (try simp only [Act.put, nA, nB, nC])
 refine tk 14 ?_
 (try simp only [Act.put, nA, nB, nC])
 refine tk 15 ?_
 (try simp only [Act.put, nA, nB, nC])
 refine tk 16 ?_
 (try simp only [Act.put, nA, nB, nC])
 refine tk 17 ?_
 (try simp only [Act.put, nA, nB, nC])
 refine tk 18 ?_
 (try simp only [Act.put, nA, nB, nC])
 refine tk 19 ?_
 (try simp only [Act.put, nA, nB, nC])
 refine tk 20 ?_
 (try simp only [Act.put, nA, nB, nC])
 refine tk 21 ?_
 (try simp only [Act.put, nA, nB, nC])
 refine tk 22 ?_
 (try simp only [Act.put, nA, nB, nC])
 refine tk 24 ?_
 (try simp only [Act.put, nA, nB, nC])
 refine tk 25 ?_
 (try simp only [Act.put, nA, nB, nC])
 refine tk 26 ?_
 (try simp only [Act.put, nA, nB, nC])
 refine tk 27 ?_
 (try simp only [Act.put, nA, nB, nC])
 refine tk 28 ?_
 (try simp only [Act.put, nA, nB, nC])
 refine tk 29 ?_
 (try simp only [Act.put, nA, nB, nC])
 refine tk 30 ?_
 (try simp only [Act.put, nA, nB, nC])
 refine tk 31 ?_
 (try simp only [Act.put, nA, nB, nC])
 refine tk 32 ?_
 (try simp only [Act.put, nA, nB, nC])
 refine tk 33 ?_
 (try simp only [Act.put, nA, nB, nC])
 refine tk 35 ?_
 (try simp only [Act.put, nA, nB, nC])
 refine tk 36 ?_
 (try simp only [Act.put, nA, nB, nC])
 refine tk 37 ?_
 (try simp only [Act.put, nA, nB, nC])
 refine tk 38 ?_
 (try simp only [Act.put, nA, nB, nC])
 refine tk 39 ?_
 (try simp only [Act.put, nA, nB, nC])
 refine tk 40 ?_
 (try simp only [Act.put, nA, nB, nC])
 refine tk 41 ?_
 (try simp only [Act.put, nA, nB, nC])
 refine tk 42 ?_
 (try simp only [Act.put, nA, nB, nC])
 refine tk 43 ?_
 (try simp only [Act.put, nA, nB, nC])
 refine tk 44 ?_
 (try simp only [Act.put, nA, nB, nC])
 refine wpAnyM_oneS 12 rfl (by kernel_rfl) (fun K hK => ?_)
 go_simp
 (refine (qdot_any c _ w.heap.size (w.heap.size + 1) F g0 (-g1) (-g2) (-g3) _ HS.out.qc).mono ?_); rintro e w4 ⟨rfl, hu⟩; have HT := Lib.hid (HS.out.upd' hu); clear HS hu; have HS := HT; clear HT
 (try dsimp only)
 (try simp only [Act.put, nA, nB, nC])
 clear hHeld
 refine hK.out _ _ ?_ (fun hHeld => ?_)
 ·exact ⟨by rw [← HG.out.1.1]; exact HS.out.b.cell (by decide), by rw [← HG.out.1.2]; exact HS.out.b.cell (by decide), by rw [← HG.out.2.1]; exact HS.out.b.cell (by decide), by rw [← HG.out.2.2]; exact HS.out.b.cell (by decide)⟩
 clear hK K
 (try simp only [Act.put, nA, nB, nC])
 refine wpAnyM_oneS 23 rfl (by kernel_rfl) (fun K hK => ?_)
 go_simp
 (refine (qdot_any c _ w.heap.size (w.heap.size + 1) F g1 g0 g3 (-g2) _ HS.out.qc).mono ?_); rintro e w5 ⟨rfl, hu⟩; have HT := Lib.hid (HS.out.upd' hu); clear HS hu; have HS := HT; clear HT
 (try dsimp only)
 (try simp only [Act.put, nA, nB, nC])
 clear hHeld
 refine hK.out _ _ ?_ (fun hHeld => ?_)
 ·exact ⟨by rw [← HG.out.1.1]; exact HS.out.b.cell (by decide), by rw [← HG.out.1.2]; exact HS.out.b.cell (by decide), by rw [← HG.out.2.1]; exact HS.out.b.cell (by decide), by rw [← HG.out.2.2]; exact HS.out.b.cell (by decide)⟩
 clear hK K
 (try simp only [Act.put, nA, nB, nC])
 refine wpAnyM_oneS 34 rfl (by kernel_rfl) (fun K hK => ?_)
 go_simp
 (refine (qdot_any c _ w.heap.size (w.heap.size + 1) F g2 (-g3) g0 g1 _ HS.out.qc).mono ?_); rintro e w6 ⟨rfl, hu⟩; have HT := Lib.hid (HS.out.upd' hu); clear HS hu; have HS := HT; clear HT
 (try dsimp only)
 (try simp only [Act.put, nA, nB, nC])
 clear hHeld
 refine hK.out _ _ ?_ (fun hHeld => ?_)
 ·exact ⟨by rw [← HG.out.1.1]; exact HS.out.b.cell (by decide), by rw [← HG.out.1.2]; exact HS.out.b.cell (by decide), by rw [← HG.out.2.1]; exact HS.out.b.cell (by decide), by rw [← HG.out.2.2]; exact HS.out.b.cell (by decide)⟩
 clear hK K
 (try simp only [Act.put, nA, nB, nC])
 refine wpAnyM_oneS 45 rfl (by kernel_rfl) (fun K hK => ?_)
 go_simp
 (refine (qdot_any c _ w.heap.size (w.heap.size + 1) F g3 g2 (-g1) g0 _ HS.out.qc).mono ?_); rintro e w7 ⟨rfl, hu⟩; have HT := Lib.hid (HS.out.upd' hu); clear HS hu; have HS := HT; clear HT
 (try dsimp only)
 (try simp only [Act.put, nA, nB, nC])
 clear hHeld
 refine hK.out _ _ ?_ (fun hHeld => ?_)
 ·exact ⟨by rw [← HG.out.1.1]; exact HS.out.b.cell (by decide), by rw [← HG.out.1.2]; exact HS.out.b.cell (by decide), by rw [← HG.out.2.1]; exact HS.out.b.cell (by decide), by rw [← HG.out.2.2]; exact HS.out.b.cell (by decide)⟩
 clear hK K
 (try simp only [Act.put, nA, nB, nC])
 refine tl 46 (v := ?_) ?_ ?_
 rotate_left
 ·(intro wx hSw; refine Eq.trans (run_build_q4 (.tmp 27) (.tmp 38) (.tmp 49) (.tmp 60) (by rfl) (by rfl) (by rfl) (by rfl) (by rfl)) ?_; with_reducible rfl)
 (try simp only [Act.put, nA, nB, nC])
 refine wpAnyM_one 47 rfl (by kernel_rfl) (fun K hK => ?_)
 go_simp; rw [if_pos (arrv_size _ _), run_storeCells_row _ HS.out.r]; go_simp
 refine hK.out _ _ (.inl (by kernel_rfl)) (fun _ => ?_)
 clear hK K
 (try simp only [Act.put, nA, nB, nC])
 refine wpAnyM_done (by kernel_rfl) ?_ _
 have HV := Lib.hid (show arrv 4 (q4 (dotV 30 F (q4 g0 (-g1) (-g2) (-g3)) 4) (dotV 30 F (q4 g1 g0 g3 (-g2)) 4) (dotV 30 F (q4 g2 (-g3) g0 g1) 4) (dotV 30 F (q4 g3 g2 (-g1) g0) 4)) = arrv 4 (qmV A B) by
  rw [← HE.out.1, ← q4_eq (fun r => dotV 30 F (qmR G r) 4), ← HG.out.1.1, ← HG.out.1.2, ← HG.out.2.1, ← HG.out.2.2]; rfl)
 have r1 := HS.out.r.setRow (q4 (dotV 30 F (q4 g0 (-g1) (-g2) (-g3)) 4) (dotV 30 F (q4 g1 g0 g3 (-g2)) 4) (dotV 30 F (q4 g2 (-g3) g0 g1) 4) (dotV 30 F (q4 g3 g2 (-g1) g0) 4))
 have B1 := HS.out.upd.then' (below_row (Below.refl _ _) (show w.heap.size ≤ w.heap.size + 1 + 1 + 1 by omega) (arrv 4 (q4 (dotV 30 F (q4 g0 (-g1) (-g2) (-g3)) 4) (dotV 30 F (q4 g1 g0 g3 (-g2)) 4) (dotV 30 F (q4 g2 (-g3) g0 g1) 4) (dotV 30 F (q4 g3 g2 (-g1) g0) 4))))
 rw [HV.out] at r1 B1 ⊢
 have B2 : Upd c (h || qmH A B) w (w7.setRow (w.heap.size + 1 + 1 + 1) (arrv 4 (qmV A B))) := by
  rw [← HE.out.2]
  rw [show (H1 || orB (fun r => dotH 30 F (qmR G r) 4) 4) = (H1 || dotH 30 F (q4 g0 (-g1) (-g2) (-g3)) 4 || dotH 30 F (q4 g1 g0 g3 (-g2)) 4 || dotH 30 F (q4 g2 (-g3) g0 g1) 4 || dotH 30 F (q4 g3 g2 (-g1) g0) 4) by rw [← HG.out.1.1, ← HG.out.1.2, ← HG.out.2.1, ← HG.out.2.2]; simp [orB, qmR, Bool.or_assoc]]
  exact B1
 generalize w7.setRow (w.heap.size + 1 + 1 + 1) (arrv 4 (qmV A B)) = W8 at *
 go_wp2_with fail
 refine bodyPost_ret (results_cell_row Tryz.results23 _ _ (w.heap.size + 1 + 1 + 1) 38 (arrv 4 (qmV A B)) (0, 0) _ rfl (by rw [← HV.out]; exact r1) Tryz.underlying38 rfl (iqt.trans (by rw [arrv_size]))) rfl ⟨rfl, B2⟩
end Go.Proofs.YtgfklheepkgedaaGreat
/- Contracts of package rot: Of. -/
namespace Go.Proofs.YtgfklheepkgedaaGreat
open Go.RowKit
set_option maxRecDepth 100000
end Go.Proofs.YtgfklheepkgedaaGreat
/- append of one number of int64 to a slice of the call's own. -/
namespace Go.Proofs.YtgfklheepkgedaaGreat
open Go.RowKit
open Go
theorem info_i64 : (Tryz.prog.info? 2).map (fun i => (i.zero, i.size, i.bytes)) = some (some (.int .i64 0), 1, 8) := by kernel_rfl
theorem info_i64' : ∃ i, Tryz.prog.info? 2 = some i ∧ i.zero = some (.int .i64 0) ∧ i.size = 1 ∧ i.bytes = 8 := by
 have h := info_i64
 cases e : Tryz.prog.info? 2 with
 | none => rw [e] at h; cases h
 | some i => rw [e] at h; simp at h; exact ⟨i, rfl, h.1, h.2.1, h.2.2⟩
theorem own_snoc {n : Nat} {L : Nat → Int} {x : Int} : ints n L ++ [.int .i64 x] = ints (n + 1) (upd L n x) := by
 rw [ints_succ]
 congr 1
 ·exact ints_congr fun i hi => by simp [upd, show ¬ i = n by omega]
 ·simp [upd]
theorem run_app1 {w : World} (B : Nat) {v : Value} {n : Nat} {L : Nat → Int} (hown : Own w B 2 v n L) (nb c : Nat) (x : Int) (hx : w.cell? ⟨nb, 0, none⟩ = some (.int .i64 x)) (hn : n ≤ 1000000) (hB : B ≤ w.heap.size) (ty : TypeId) (H : Nat) (hH : w.heap.size = H) :
  ∃ g cap w', (Builtin.append_ #[71, 71] ty #[v, .slice (some ⟨nb, 0, none⟩) 1 c]).run Tryz.prog w = .ok (.slice (some ⟨g, 0, none⟩) (n + 1) cap) w' ∧
   Own w' B 2 (.slice (some ⟨g, 0, none⟩) (n + 1) cap) (n + 1) (upd L n x) ∧ w.grownBy w' v.ownBlock ∧ (v.ownBlock = some g ∨ g = H) ∧ g < w'.heap.size := by
 obtain ⟨i, hi, hz, hs, hb⟩ := info_i64'
 obtain ⟨g, cap, w', h1, h2, h3, h4, h5⟩ := run_append_lies (P := Tryz.prog) w 71 ty B 2 i (.int .i64 0) 1 8 Tryz.underlying71 hi hz hs hb rfl (by decide) v n (ints n L) hown ⟨nb, 0, none⟩ 1 c [.int .i64 x] rfl
  (fun j u hu => by
   have hj : j = 0 := by
    have := List.getElem?_eq_some_iff.1 hu
    obtain ⟨h, _⟩ := this
    simpa using h
   subst hj
   simp at hu
   subst hu
   simpa [Addr.add] using hx) (fun u hu => by rw [List.mem_singleton] at hu; subst hu; rfl) (by decide) (by unfold maxLen; omega) (by omega) hB H hH
 exact ⟨g, cap, w', h1, by unfold Own; rw [← own_snoc]; exact h2, h3, h4, h5⟩
theorem wp_app1 {w : World} {o : Oper} {a : Act} {K : Act → World → Prop} {Q : Exit → Act → World → Prop} (s x : Operand)
  (ho : o.op = .call { callee := .builtin .append, args := #[s, x], argTypes := #[71, 71] })
  (B : Nat) {v : Value} {n : Nat} {L : Nat → Int} (hs : a.eval s = v) (hown : Own w B 2 v n L) (nb c : Nat) (y : Int) (hx : a.eval x = .slice (some ⟨nb, 0, none⟩) 1 c) (hy : w.cell? ⟨nb, 0, none⟩ = some (.int .i64 y)) (hn : n ≤ 1000000) (hB : B ≤ w.heap.size) (H : Nat) (hH : w.heap.size = H)
  (h : ∀ g cap w', Own w' B 2 (.slice (some ⟨g, 0, none⟩) (n + 1) cap) (n + 1) (upd L n y) → w.grownBy w' v.ownBlock → (v.ownBlock = some g ∨ g = H) → g < w'.heap.size → K (a.put o.dst (.slice (some ⟨g, 0, none⟩) (n + 1) cap)) w') : o.wp Tryz.prog a w K Q := by
 obtain ⟨g, cap, w', hr, h2, h3, h4, h5⟩ := run_app1 B hown nb c y hy hn hB o.type H hH
 unfold Oper.wp execOp
 simp only [ho, resolve, invoke, builtin, Sem.run_bind, Sem.run_pure, Result.andThen_ok, List.map_toArray, List.map_cons, List.map_nil, hs, hx, hr]
 exact h g cap w' h2 h3 h4 h5
theorem wpList_app1 {w : World} {ops : Array Oper} {rest : List Oper} {o : Oper} {a : Act} {Q : Exit → Act → World → Prop} (hgd : o.guard = none) (s x : Operand)
  (ho : o.op = .call { callee := .builtin .append, args := #[s, x], argTypes := #[71, 71] })
  (B : Nat) {v : Value} {n : Nat} {L : Nat → Int} (hs : a.eval s = v) (hown : Own w B 2 v n L) (nb c : Nat) (y : Int) (hx : a.eval x = .slice (some ⟨nb, 0, none⟩) 1 c) (hy : w.cell? ⟨nb, 0, none⟩ = some (.int .i64 y)) (hn : n ≤ 1000000) (hB : B ≤ w.heap.size) (H : Nat) (hH : w.heap.size = H)
  (h : ∀ g cap w', Own w' B 2 (.slice (some ⟨g, 0, none⟩) (n + 1) cap) (n + 1) (upd L n y) → w.grownBy w' v.ownBlock → (v.ownBlock = some g ∨ g = H) → g < w'.heap.size → wpList Tryz.prog ops Q rest (a.put o.dst (.slice (some ⟨g, 0, none⟩) (n + 1) cap)) w') : wpList Tryz.prog ops Q (o :: rest) a w :=
 wpList_plain hgd fun _ hK => wp_app1 s x ho B hs hown nb c y hx hy hn hB H hH fun g cap w' h2 h3 h4 h5 => hK _ _ (h g cap w' h2 h3 h4 h5)
theorem step_app1 {w : World} {ops : Array Oper} {o : Oper} {a : Act} {K : Act → World → Prop} {Q : Exit → Act → World → Prop} {E : Prop} (hgd : o.guard = none) (s x : Operand)
  (ho : o.op = .call { callee := .builtin .append, args := #[s, x], argTypes := #[71, 71] })
  (B : Nat) {v : Value} {n : Nat} {L : Nat → Int} (hs : a.eval s = v) (hown : Own w B 2 v n L) (nb c : Nat) (y : Int) (hx : a.eval x = .slice (some ⟨nb, 0, none⟩) 1 c) (hy : w.cell? ⟨nb, 0, none⟩ = some (.int .i64 y)) (hn : n ≤ 1000000) (hB : B ≤ w.heap.size) (H : Nat) (hH : w.heap.size = H)
  (h : ∀ g cap w', Own w' B 2 (.slice (some ⟨g, 0, none⟩) (n + 1) cap) (n + 1) (upd L n y) → w.grownBy w' v.ownBlock → (v.ownBlock = some g ∨ g = H) → g < w'.heap.size → K (a.put o.dst (.slice (some ⟨g, 0, none⟩) (n + 1) cap)) w') :
  if Region.wanted o (yielded ops a.tmps) = true then Oper.wp Tryz.prog o a w K Q else E := by
 have hw : Region.wanted o (yielded ops a.tmps) = true := by simp [Region.wanted, hgd]
 rw [if_pos hw]
 exact wp_app1 s x ho B hs hown nb c y hx hy hn hB H hH h
end Go.Proofs.YtgfklheepkgedaaGreat
/- Contracts of package vec (2): Add. -/
namespace Go.Proofs.YtgfklheepkgedaaGreat
open Go.RowKit
set_option maxRecDepth 100000
open Go in
theorem run_load_mid3 {P : Program} {o : Oper} {ev : Operand → Value} {w : World} (ty : TypeId) (x : Operand) (ho : o.op = .load ty x) (b off n : Nat) (hx : ev x = .pointer (some ⟨b, off, none⟩)) (f : Nat → Int)
  (hc : ∀ j, j < n → w.cell? ⟨b, off + j, none⟩ = some (.int .i64 (f j))) (d : TypeDesc) (hu : P.underlying ty = some d) (hd : d.isRow = true) (hi : (P.info? ty).map (·.size) = some n) :
  (execOp ev o).run P w = .ok (.value (.agg (arrv n f))) w := by
 have h := run_loadVar_mid (P := P) w b off ty (arrv n f).toList d (fun j v hv => by
  have hj : j < n := by
   have := (List.getElem?_eq_some_iff.1 hv).1
   simpa [arrv_size] using this
  rw [Array.getElem?_toList, arrv_get hj] at hv
  injection hv with hv
  rw [← hv]; exact hc j hj) hu hd (by rw [hi, Array.length_toList, arrv_size])
 rw [Array.toArray_toList] at h
 unfold execOp
 simp [ho, hx, Instr.loadAt, Instr.sureAddr, Sem.run_bind, h]
theorem ownBlock_lt2 {w : World} {B T : Nat} {v : Value} {n : Nat} {L : Nat → Int} (h : Own w B T v n L) {g : Nat} (e : v.ownBlock = some g) : B ≤ g ∧ g < w.heap.size := World.ownsRow.lt h g e
theorem snoc_fun2 {n : Nat} {L : Nat → Int} {y : Int} (e : y = L n) : ∀ i, i < n + 1 → upd L n y i = L i := fun i _ => by
 unfold upd; split
 ·rename_i h; rw [h, e]
 ·rfl
/-- Vectors side by side. -/
def VLs (w : World) (p o n : Nat) (L : Nat → Nat → Int) : Prop := ∀ j, j < n → ∀ k, k < 3 → w.cell? ⟨p, o + j * 3 + k, none⟩ = some (.int .i64 (L j k))
theorem VLs.upd {w w' : World} {p o n : Nat} {L : Nat → Nat → Int} {c : Addr} {h h' : Bool} (s : VLs w p o n L) (hc : w.cell? c = some (.bool h)) (u : Upd c h' w w') : VLs w' p o n L := fun j hj k hk => by
 have q := s j hj k hk
 rw [u.cell (World.block_lt_of_cell? w _ q) (fun e => by rw [e] at hc; rw [hc] at q; cases q), q]
theorem VLs.below {w w' : World} {p o n : Nat} {L : Nat → Nat → Int} (s : VLs w p o n L) (u : Below w.heap.size w w') : VLs w' p o n L := fun j hj k hk => by
 have q := s j hj k hk
 exact (u.cell (World.block_lt_of_cell? w _ q)).trans q
def vaV (L : Nat → Nat → Int) (n : Nat) : Nat → Int := fun i => satV (sumS (fun j => L j i) n)
def vaH (L : Nat → Nat → Int) (n : Nat) : Nat → Bool := fun i => sumB (fun j => L j i) n || satH (sumS (fun j => L j i) n)
def vaK (L : Nat → Nat → Int) (n k : Nat) : Nat → Int := fun i => if i < k then vaV L n i else 0
/-- The blocks of vec.Add. -/
structure VaR (c : Addr) (h : Bool) (p o n : Nat) (L : Nat → Nat → Int) (F : Nat → Int) (w wr : World) : Prop where
 upd : Upd c h w wr
 r : Blk wr w.heap.size 28 3 (fun _ => 0)
 ou : Blk wr (w.heap.size + 1) 28 3 F
 ls : VLs wr p o n L
 cell : wr.cell? c = some (.bool h)
 free : wr.frozen? c = false
 cb : c.block < w.heap.size
 pb : p < w.heap.size
theorem VaR.upd' {c : Addr} {h h' : Bool} {p o n : Nat} {L : Nat → Nat → Int} {F : Nat → Int} {w wr w' : World} (s : VaR c h p o n L F w wr) (u : Upd c h' wr w') : VaR c h' p o n L F w w' := by
 have hcb := s.cb
 exact ⟨s.upd.trans u, s.r.upd u (by omega), s.ou.upd u (by omega), s.ls.upd s.cell u, u.cellc s.cell, (u.frozen (World.block_lt_of_cell? _ _ s.cell)).trans s.free, s.cb, s.pb⟩
theorem VaR.down {c : Addr} {h : Bool} {p o n : Nat} {L : Nat → Nat → Int} {F : Nat → Int} {w wr w' : World} (s : VaR c h p o n L F w wr) (u : Below wr.heap.size wr w') : VaR c h p o n L F w w' :=
 ⟨s.upd.then u, s.r.below u, s.ou.below u, s.ls.below u, (u.cell (World.block_lt_of_cell? _ _ s.cell)).trans s.cell, (u.frozen (World.block_lt_of_cell? _ _ s.cell)).trans s.free, s.cb, s.pb⟩
/-- Nothing below the own blocks has turned. -/
theorem VaR.down2 {c : Addr} {h : Bool} {p o n : Nat} {L : Nat → Nat → Int} {F : Nat → Int} {w wr w' : World} (s : VaR c h p o n L F w wr) (u : Below (w.heap.size + 1 + 1) wr w') (hz : w.heap.size + 1 + 1 ≤ wr.heap.size) : VaR c h p o n L F w w' := by
 have hcb := s.cb
 have hpb := s.pb
 exact ⟨s.upd.then' (u.mono (by omega)), (u.block _ (by omega)).trans s.r, (u.block _ (by omega)).trans s.ou, fun j hj k hk => (u.cell (show p < _ by omega)).trans (s.ls j hj k hk), (u.cell (by omega)).trans s.cell, (u.frozen (by omega)).trans s.free, s.cb, s.pb⟩
theorem VaR.set {c : Addr} {h : Bool} {p o n : Nat} {L : Nat → Nat → Int} {F : Nat → Int} {w wr : World} (s : VaR c h p o n L F w wr) (i : Nat) (x : Int) : VaR c h p o n L (Go.Proofs.YtgfklheepkgedaaGreat.upd F i x) w (wr.setCell ⟨w.heap.size + 1, i, none⟩ (.int .i64 x)) := by
 have hcb := s.cb
 have hpb := s.pb
 exact ⟨s.upd.setCell (by first | omega | (simp; done) | (simp; omega)) _, s.r.other (by first | omega | (simp; done) | (simp; omega)) _, s.ou.set _ _, fun j hj k hk => by rw [World.cell?_setCell_other _ _ _ _ (fun e => by have := congrArg Addr.block e; dsimp only at this; omega)]; exact s.ls j hj k hk, by rw [World.cell?_setCell_other _ _ _ _ (fun e => by rw [← e] at hcb; dsimp only at hcb; omega)]; exact s.cell, by rw [World.frozen?_setCell]; exact s.free, s.cb, s.pb⟩
theorem VaR.congr {c : Addr} {h h' : Bool} {p o n : Nat} {L : Nat → Nat → Int} {F G : Nat → Int} {w wr : World} (s : VaR c h p o n L F w wr) (eh : h = h') (e : ∀ i, i < 3 → F i = G i) : VaR c h' p o n L G w wr := by
 subst eh; exact ⟨s.upd, s.r, s.ou.congr e, s.ls, s.cell, s.free, s.cb, s.pb⟩
theorem va_start (c : Addr) (h : Bool) (p o n : Nat) (L : Nat → Nat → Int) (w : World) (hc : w.cell? c = some (.bool h)) (hf : w.frozen? c = false) (hn : 0 < n) (hL : VLs w p o n L) :
  VaR c h p o n L (fun _ => 0) w ((w.alloc (.cells #[.int .i64 0, .int .i64 0, .int .i64 0] 28)).alloc (.cells #[.int .i64 0, .int .i64 0, .int .i64 0] 28)) := by
 have hcb := World.block_lt_of_cell? w c hc
 have bl : Below w.heap.size w ((w.alloc (.cells #[.int .i64 0, .int .i64 0, .int .i64 0] 28)).alloc (.cells #[.int .i64 0, .int .i64 0, .int .i64 0] 28)) := by (repeat (first | with_reducible exact Below.refl _ _ | with_reducible apply Below.drew | (with_reducible refine below_drewN ?_ _) | (with_reducible refine Below.alloc ?_ (by (try simp) <;> omega) _) | (with_reducible refine Below.setCell ?_ (by (try simp) <;> omega) _)))
 refine ⟨Upd.then (Upd.refl hc) bl, ?_, ?_, hL.below bl, (bl.cell hcb).trans hc, (bl.frozen hcb).trans hf, hcb, World.block_lt_of_cell? w _ (hL 0 hn 0 (by decide))⟩
 ·rw [zv3]; exact (Blk.new w _ 3 _).alloc _
 ·rw [zv3]; exact Blk.new1 w _ _ 3 _
theorem VaR.row {c : Addr} {h : Bool} {p o n : Nat} {L : Nat → Nat → Int} {F : Nat → Int} {w wr : World} (s : VaR c h p o n L F w wr) (hz : w.heap.size + 1 + 1 ≤ wr.heap.size) (G : Nat → Int) :
  VaR c h p o n L F w ((wr.alloc (.cells #[.int .i64 0, .int .i64 0, .int .i64 0] 28)).setRow wr.heap.size (arrv 3 G)) ∧ Blk ((wr.alloc (.cells #[.int .i64 0, .int .i64 0, .int .i64 0] 28)).setRow wr.heap.size (arrv 3 G)) wr.heap.size 28 3 G ∧ Below wr.heap.size wr ((wr.alloc (.cells #[.int .i64 0, .int .i64 0, .int .i64 0] 28)).setRow wr.heap.size (arrv 3 G)) := by
 have b0 : Below wr.heap.size wr ((wr.alloc (.cells #[.int .i64 0, .int .i64 0, .int .i64 0] 28)).setRow wr.heap.size (arrv 3 G)) := below_row ((Below.refl _ _).alloc (Nat.le_refl _) _) (Nat.le_refl _) _
 refine ⟨s.down b0, ?_, b0⟩
 rw [zv3]; exact (Blk.new wr _ 3 _).setRow G
set_option maxHeartbeats 16000000 in
theorem vadd_any (c : Addr) (h : Bool) (p o ca n : Nat) (L : Nat → Nat → Int) (w : World) (hc : w.cell? c = some (.bool h)) (hf : w.frozen? c = false) (hn : 0 < n) (hn2 : n ≤ 100) (hL : VLs w p o n L) :
  Calls Tryz.prog 37 #[.pointer (some c), .slice (some ⟨p, o, none⟩) n ca] w fun e w' => e = .returned (.agg (arrv 3 (vaV L n))) ∧ Upd c (h || orB (vaH L n) 3) w w' := by
 have S0 := Lib.hid (va_start c h p o n L w hc hf hn hL)
 clear hc hf hL
 go_enter Tryz.func37, Tryz.ntmps37
 go_upto_region 2 with fail
 have hz0 : w.heap.size + 1 + 1 ≤ ((w.alloc (.cells #[.int .i64 0, .int .i64 0, .int .i64 0] 28)).alloc (.cells #[.int .i64 0, .int .i64 0, .int .i64 0] 28)).heap.size := by simp
 generalize (w.alloc (.cells #[.int .i64 0, .int .i64 0, .int .i64 0] 28)).alloc (.cells #[.int .i64 0, .int .i64 0, .int .i64 0] 28) = W0 at *
 go_wp2_with fail
 go_loopw [10] (fun i wr => ∃ k : Nat, k ≤ 3 ∧ i = .int .i64 k ∧ w.heap.size + 1 + 1 ≤ wr.heap.size ∧ Hid (VaR c (h || orB (vaH L n) k) p o n L (vaK L n k) w wr)) (fun i _ => 3 - (intOf i).toNat)
 case atStart => exact ⟨0, by omega, rfl, hz0, Lib.hid (S0.out.congr (by simp [orB]) fun i hi => by simp [vaK])⟩
 case round =>
  obtain ⟨k, hk, rfl, hz, R⟩ := hrel
  clear S0 hz0
  by_cases hlt : k < 3
  ·have d1 : decide ((k : Int) < 3) = true := by simp; omega
   have k0 : (0 : Int) ≤ (k : Int) := Int.natCast_nonneg _
   have k1 : (k : Int) < 3 := by omega
   have HK := Lib.hid (show (h || orB (vaH L n) (k + 1)) = (h || orB (vaH L n) k || sumB (fun j => L j k) n || satH (sumS (fun j => L j k) n)) by simp [vaH, orB, Bool.or_assoc])
   obtain ⟨H, hH⟩ : ∃ x, (h || orB (vaH L n) k) = x := ⟨_, rfl⟩
   rw [hH] at R HK
   clear hH
   go_upto_region 6 with fail
   go_wp2_with fail
   go_loopw [7, 15] (fun u j wr => ∃ (q : Nat) (v : Value), q ≤ n ∧ u = v ∧ j = .int .i64 q ∧ w.heap.size + 1 + 1 ≤ wr.heap.size ∧ Hid (VaR c H p o n L (vaK L n k) w wr ∧ Own wr (w.heap.size + 1 + 1) 2 v q (fun j => L j k))) (fun _ j _ => n - (intOf j).toNat)
   case atStart => exact ⟨0, _, by omega, rfl, rfl, hz, Lib.hid ⟨R.out, Own.nil _ _ _ _⟩⟩
   case round =>
    obtain ⟨q, v, hq, hv, rfl, hz2, T⟩ := hrel
    clear R hz
    subst hv
    by_cases hqn : q < n
    ·have e1 : decide (q < n) = true := by simpa using hqn
     have q0 : (0 : Int) ≤ (q : Int) := Int.natCast_nonneg _
     have q1 : (q : Int) < (n : Int) := by omega
     have LR := Lib.hid (T.out.1.ls q hqn)
     have O1 := Lib.hid T.out.2
     have V1 := Lib.hid T.out.1
     clear T
     go_upto_region 8 with fail
     refine wp_region_lit ?_
     refine tv ?_
     (try simp only [Act.put, nA, nB, nC])
     refine wpList_val (v := ?_) rfl ?_ ?_
     rotate_left
     ·(refine Eq.trans (run_load_mid3 28 (.tmp 17) (by rfl) p (o + q * 3) 3 (by rfl) (L q) (fun j hj => LR.out j hj) _ Tryz.underlying28 rfl iv3) ?_; with_reducible rfl)
     (try simp only [Act.put, nA, nB, nC])
     refine wpList_act (v := ?_) (w' := ?_) rfl ?_ ?_
     rotate_left 2
     ·(go_simp; (try (first | with_reducible rfl | (constructor <;> with_reducible rfl))))
     (try simp only [Act.put, nA, nB, nC])
     have NB := Lib.hid (V1.out.row hz2 (L q)); (refine wpList_done (w' := ?_) rfl ?_ ?_); rotate_left; (focus (refine Eq.trans (run_store_row 28 (.tmp 9) (.tmp 18) (by rfl) (wr.heap.size) (by rfl) (by rfl) (show Blk (wr.alloc (.cells #[.int .i64 0, .int .i64 0, .int .i64 0] 28)) wr.heap.size 28 3 (fun _ => 0) by rw [zv3]; exact Blk.new _ _ _ _) (iv3.trans rfl)) ?_; with_reducible rfl))
     refine wpList_nil ?_
     have O2 := Lib.hid (O1.out.below NB.out.2.2)
     have V2 := Lib.hid NB.out.1
     have xc := NB.out.2.1.cell hlt
     have hzw : wr.heap.size < ((wr.alloc (.cells #[.int .i64 0, .int .i64 0, .int .i64 0] 28)).setRow wr.heap.size (arrv 3 (L q))).heap.size := NB.out.2.1.lt
     generalize (wr.alloc (.cells #[.int .i64 0, .int .i64 0, .int .i64 0] 28)).setRow wr.heap.size (arrv 3 (L q)) = W2 at *
     obtain ⟨b, hb⟩ : ∃ b, wr.heap.size = b := ⟨_, rfl⟩
     have hz3 : w.heap.size + 1 + 1 ≤ W2.heap.size := by omega
     rw [hb] at xc ⊢
     obtain ⟨y, hy⟩ : ∃ y, L q k = y := ⟨_, rfl⟩
     rw [hy] at xc
     have HY := Lib.hid hy.symm
     clear NB O1 V1 LR hy hb hzw hz2
     go_upto_region 9 with fail
     go_upto_region 10 with (refine wpList_app1 rfl (.tmp 19) (.tmp 23) rfl (w.heap.size + 1 + 1) rfl (O2.out.alloc _) W2.heap.size 1 y rfl (by simp [go_sem]) (by omega) (by simp; omega) (W2.heap.size + 1) (by simp) ?_; intro g1 cp1 w3 hO1 hg1 hat1 hlt1; have HO1 := Lib.hid hO1; have HG1 := Lib.hid hg1; clear hO1 hg1 hat1)
     have hB := below_grown ((Below.refl (w.heap.size + 1 + 1) W2).alloc (by omega) (.cells #[.int .i64 y] 2)) HG1.out (fun j hj => (ownBlock_lt2 O2.out hj).1) (by simp; omega)
     have V3 := Lib.hid (V2.out.down2 hB hz3)
     have hz4 : w.heap.size + 1 + 1 ≤ w3.heap.size := by have := hB.size; omega
     have O3 := Lib.hid (HO1.out.congr (snoc_fun2 HY.out))
     clear hB HO1 HG1 O2 V2 HY xc hz3
     go_wp2_with fail
     go_roundw
     case rel => exact ⟨q + 1, _, by omega, rfl, by go_num, hz4, Lib.hid ⟨V3.out, O3.out⟩⟩
     case measure => simp [intOf]; omega
    ·have hq2 : q = n := by omega
     subst hq2
     have e1 : decide (q < q) = false := by simp
     obtain ⟨g, cp, rfl, hg1, hg2, hg3⟩ := T.out.2.slc hn
     have V1 := Lib.hid T.out.1
     have FC := Lib.hid (fadd_any c H (fun j => L j k) g 0 cp q wr V1.out.cell V1.out.free hn2 hg3)
     clear T hg1 hg2 hg3
     go_upto_region 11 with fail
     go_wp2_with (go_at_call 75; (refine FC.out.mono ?_); rintro e w4 ⟨rfl, hu4⟩; have hz4 := hu4.size; have V4 := Lib.hid (V1.out.upd' hu4); clear hu4 FC V1; have a0 := V4.out.ou.cell hlt; have a1 := V4.out.ou.free k)
     go_roundw
     case rel =>
      refine ⟨k + 1, by omega, by go_num, by rw [setCell_size]; omega, Lib.hid ((V4.out.set k _).congr HK.out.symm fun i hi => ?_)⟩
      simp only [Go.Proofs.YtgfklheepkgedaaGreat.upd, vaK]
      by_cases h1 : i = k
      ·subst h1; rw [if_pos rfl, if_pos (by omega)]; rfl
      ·rw [if_neg h1]
       by_cases h2 : i < k
       ·rw [if_pos h2, if_pos (by omega)]
       ·rw [if_neg h2, if_neg (by omega)]
     case measure => simp [intOf]; omega
  ·have hk3 : k = 3 := by omega
   subst hk3
   have R2 := R.out.congr rfl (G := vaV L n) fun i hi => by simp only [vaK]; rw [if_pos hi]
   have U := Lib.hid R2.upd
   have B0 := R2.ou
   have B1 := R2.r
   clear R R2
   rw [show ((3 : Nat) : Int) = 3 from rfl]
   go_wp2_with (first | (refine wpList_load_row rfl 28 _ rfl (w.heap.size + 1) rfl 28 _ (0, 0) _ (B0) Tryz.underlying28 rfl (iv3.trans (by rw [arrv_size])) ?_) | (refine wpList_store_row rfl 28 _ _ rfl (w.heap.size) _ rfl rfl 28 _ (B1) (iv3.trans (by rw [arrv_size])) (by rw [arrv_size, arrv_size]) (oneCell_arrv _ _) ?_))
   refine bodyPost_ret (results_cell_row Tryz.results37 _ _ w.heap.size 28 (arrv 3 (vaV L n)) (0, 0) _ rfl (setRow_heap _ _ _ _ _ _ B1) Tryz.underlying28 rfl (iv3.trans (by rw [arrv_size]))) rfl ⟨rfl, ?_⟩
   exact U.out.then' (below_row (Below.refl _ _) (by omega) _)
end Go.Proofs.YtgfklheepkgedaaGreat
/- Slices of two or three vectors, built; a vector built out of its last number. -/
namespace Go.Proofs.YtgfklheepkgedaaGreat
open Go.RowKit
open Go
set_option maxRecDepth 100000
end Go.Proofs.YtgfklheepkgedaaGreat
/- Plain laws of Keep. -/
namespace Go.Proofs.YtgfklheepkgedaaGreat
theorem orB_noB {p : Nat → Bool} : ∀ {n : Nat}, (∀ i, i < n → p i = false) → orB p n = false
 | 0, _ => rfl
 | n + 1, h => by simp only [orB]; rw [orB_noB fun i hi => h i (by omega), h n (by omega)]; rfl
end Go.Proofs.YtgfklheepkgedaaGreat
/- reset's numbers: numbers of an estimate become others, within their box (plain laws). No program. -/
namespace Go.Proofs.YtgfklheepkgedaaGreat
/-- The number that the k-th state of a run from 'fr' becomes. -/
def mvX (fr : Nat) (L : Nat → Int) (k : Nat) : Int := clampV (L k) (-(boxF (fr + k))) (boxF (fr + k))
/-- The estimate behind k of them. -/
def mvS (S : Nat → Int) (fr : Nat) (L : Nat → Int) : Nat → Nat → Int | 0 => S | k + 1 => upd (mvS S fr L k) (fr + k) (mvX fr L k)
/-- By how much. -/
def mvD (S : Nat → Int) (fr : Nat) (L : Nat → Int) (k : Nat) : Int := subV (mvX fr L k) (S (fr + k))
def mvB (S : Nat → Int) (fr : Nat) (L : Nat → Int) (k : Nat) : Bool := clampH (L k) (-(boxF (fr + k))) (boxF (fr + k)) || subH (mvX fr L k) (S (fr + k))
theorem mvS_at (S : Nat → Int) (fr : Nat) (L : Nat → Int) : ∀ k i, mvS S fr L k i = if fr ≤ i ∧ i < fr + k then mvX fr L (i - fr) else S i
 | 0, i => by rw [if_neg (by omega)]; rfl
 | k + 1, i => by
   show upd (mvS S fr L k) (fr + k) (mvX fr L k) i = _
   unfold upd
   by_cases h : i = fr + k
   ·rw [if_pos h, if_pos (by omega), show i - fr = k by omega]
   ·rw [if_neg h, mvS_at S fr L k i]
    by_cases h2 : fr ≤ i ∧ i < fr + k
    ·rw [if_pos h2, if_pos (by omega)]
    ·rw [if_neg h2, if_neg (by omega)]
theorem boxF_pos (i : Nat) : 134217728 ≤ boxF i ∧ boxF i ≤ 9007199254740992 := by
 unfold boxF
 repeat' split
 all_goals omega
end Go.Proofs.YtgfklheepkgedaaGreat
