/- Contracts of the program's functions and plain laws, part 18: they hold for all arguments. -/
import Derived.Test.YtgfklheepkgedaaGreatQ17
import Derived.Test.YtgfklheepkgedaaGreatQ03
import Derived.Test.YtgfklheepkgedaaGreatQ04
import Derived.Test.YtgfklheepkgedaaGreatQ05
import Derived.Test.YtgfklheepkgedaaGreatQ06
/- Contracts of the reference's scalars (9): Div, D, MulDiv. -/
namespace Go.Proofs.YtgfklheepkgedaaGreat
open Go.RowKit
set_option maxRecDepth 100000
theorem rdiv_sg (a b : Int) (hb : b ≠ 0) : rdiv a b = sv (sg2 a b) (dvM a.natAbs b.natAbs) := by
 have hd : 0 < b.natAbs := by omega
 have e := rdiv_dv false a.natAbs b.natAbs hd
 have h0 : dvM 0 b.natAbs = 0 := by unfold dvM; rw [Nat.zero_mod, Nat.zero_div, if_neg (by omega)]
 unfold rdiv
 have e2 : (((2 * a.natAbs + b.natAbs) / (2 * b.natAbs) : Nat) : Int) = (dvM a.natAbs b.natAbs : Int) := by
  have := e
  unfold rdiv sv at this
  simp only [Bool.false_eq_true, if_false, Int.natAbs_natCast] at this
  rw [if_pos (by simp; omega)] at this
  exact this
 rw [e2]
 by_cases ha0 : a = 0
 ·subst ha0
  simp only [Int.natAbs_zero]
  rw [h0, sv_0]
  simp
 ·unfold sv sg2
  by_cases h1 : a < 0 <;> by_cases h2 : b < 0
  ·simp only [if_pos h1, if_pos h2, Bool.false_eq_true, if_false]
   rw [if_pos (by simp; omega)]
  ·simp only [if_pos h1, if_neg h2, if_true]
   rw [if_neg (by simp; omega)]
  ·simp only [if_neg h1, if_pos h2, if_true]
   rw [if_neg (by simp; omega)]
  ·simp only [if_neg h1, if_neg h2, Bool.false_eq_true, if_false]
   rw [if_pos (by simp; omega)]
theorem sg2_pow (x y : Int) (s : Nat) : sg2 (x * 2 ^ s) y = sg2 x y := by
 have hp : (0 : Int) < 2 ^ s := Int.pow_pos (by decide)
 have : x * 2 ^ s < 0 ↔ x < 0 := by
  constructor
  ·intro h; by_cases h1 : x < 0; exact h1
   have := Int.mul_nonneg (Int.not_lt.mp h1) (Int.le_of_lt hp); omega
  ·intro h; exact Int.mul_neg_of_neg_of_pos h hp
 unfold sg2
 simp only [this]
set_option maxHeartbeats 1000000 in
theorem rdivs30 (c : Addr) (h : Bool) (a b x y : Int) (X Y M : Nat) (m bx b_y : Bool) (w : World) (hc : w.cell? c = some (.bool h)) (hf : w.frozen? c = false)
    (hx : satV a = x) (hy : satV b = y) (hX : x.natAbs = X) (hY : y.natAbs = Y) (hM : X * 1073741824 = M) (dx : decide (x < 0) = bx) (dy : decide (y < 0) = b_y) (hm : (!bx == b_y) = m) (y0 : (y == 0) = false) :
    Calls Tryz.prog 97 #[.pointer (some c), .int .i64 a, .int .i64 b, .int .i64 30] w fun e w' => e = .returned (.int .i64 (satV (sv m (dvM M Y)))) ∧ Upd c (h || satH a || satH b || satH (sv m (dvM M Y))) w w' := by
  have hcb := World.block_lt_of_cell? w c hc
  have bdx := satV_bd a
  have bdy := satV_bd b
  rw [hx] at bdx
  rw [hy] at bdy
  have y1 : 0 < Y := by have : y ≠ 0 := by simpa using y0
                        omega
  have e1 : (X : Int) / 17179869184 = hi64 (M : Int) := by rw [← hM]; unfold hi64; omega
  have e2 : IntKind.u64.wrap ((X : Int) * 1073741824) = lo64 (M : Int) := by rw [← hM, IntKind.wrap_u64]; unfold lo64; omega
  have SX := Lib.hid (fun w => rsize_any x w bdx.1 bdx.2)
  have SY := Lib.hid (fun w => rsize_any y w bdy.1 bdy.2)
  rw [hX] at SX
  rw [hY] at SY
  have DV := Lib.hid (fun w => rdivided_any M Y m w (by omega) y1 (by omega))
  have c1 : (w.setCell c (.bool (h || satH a))).cell? c = some (.bool (h || satH a)) := World.cell?_setCell_same _ _ _ hc
  have c2 : ((w.setCell c (.bool (h || satH a))).setCell c (.bool (h || satH a || satH b))).cell? c = some (.bool (h || satH a || satH b)) := World.cell?_setCell_same _ _ _ c1
  have C2 := Lib.hid c2
  clear c2 hX hY hM bdx bdy y1
  go_enter Tryz.func97, Tryz.ntmps97
  go_upto_region 2 with (refine (rsat_any c h a _ hc hf).mono ?_; rintro e w' ⟨rfl, rfl⟩)
  go_upto_region 3 with (refine (rsat_any c _ b _ c1 (by simp [hf])).mono ?_; rintro e w' ⟨rfl, rfl⟩)
  have HW := Lib.hid (Upd.trans (Upd.set c (h || satH a) w) (Upd.set c (h || satH a || satH b) _))
  have F2 : ((w.setCell c (.bool (h || satH a))).setCell c (.bool (h || satH a || satH b))).frozen? c = false := by simp [hf]
  have Z2 := Upd.size HW.out
  obtain ⟨w2, hw2⟩ : ∃ w2, (w.setCell c (.bool (h || satH a))).setCell c (.bool (h || satH a || satH b)) = w2 := ⟨_, rfl⟩
  rw [hw2] at HW C2 F2 Z2 ⊢
  clear hw2 c1 hc hf
  go_upto_region 17 with (refine (SX.out _).mono ?_; rintro e w' ⟨rfl, rfl⟩)
  have k1 : (w2.alloc (.cells #[.int .u64 (hi64 (M : Int)), .int .u64 (lo64 (M : Int)), .bool m] 137)).cell? c = some (.bool (h || satH a || satH b)) := by rw [World.cell?_alloc_lt _ _ _ (by omega)]; exact C2.out
  have k2 : (w2.alloc (.cells #[.int .u64 (hi64 (M : Int)), .int .u64 (lo64 (M : Int)), .bool m] 137)).frozen? c = false := by rw [frozen?_alloc_cells]; exact F2
  have D3 := Wid.new w2 (M : Int) m
  have B3 : Below w2.heap.size w2 (w2.alloc (.cells #[.int .u64 (hi64 (M : Int)), .int .u64 (lo64 (M : Int)), .bool m] 137)) := by (repeat (first | with_reducible exact Below.refl _ _ | with_reducible apply Below.drew | (with_reducible refine below_drewN ?_ _) | (with_reducible refine Below.alloc ?_ (by (try simp) <;> omega) _) | (with_reducible refine Below.setCell ?_ (by (try simp) <;> omega) _)))
  have z3 := D3.lt
  generalize w2.alloc (.cells #[.int .u64 (hi64 (M : Int)), .int .u64 (lo64 (M : Int)), .bool m] 137) = w3 at *
  have B3 := Lib.hid B3
  obtain ⟨⟨d0, d1, d2⟩, _⟩ := D3.c
  have nc : ∀ o, c ≠ ⟨w2.heap.size, o, none⟩ := fun o e => by rw [e] at hcb; simp at hcb; omega
  clear C2 F2 D3
  refine wp_region_M (fun w' => w'.cell? ⟨w2.heap.size, 0, none⟩ = some (.int .u64 (hi64 (M : Int))) ∧ w'.cell? ⟨w2.heap.size, 1, none⟩ = some (.int .u64 (lo64 (M : Int))) ∧ w'.cell? ⟨w2.heap.size, 2, none⟩ = some (.bool m)) 6 (by kernel_rfl) ?_ (fun hHeld => ?_)
  · exact ⟨d0, d1, d2⟩
  refine tk 0 ?_
  (try simp only [Act.put, nA, nB, nC])
  refine tk 1 ?_
  (try simp only [Act.put, nA, nB, nC])
  refine tk 2 ?_
  (try simp only [Act.put, nA, nB, nC])
  refine wpAnyM_oneS 3 rfl (by kernel_rfl) (fun K hK => ?_)
  go_simp
  (refine (SY.out _).mono ?_; rintro e w' ⟨rfl, rfl⟩)
  (try dsimp only)
  (try simp only [Act.put, nA, nB, nC])
  clear hHeld
  refine hK.out _ _ ?_ (fun hHeld => ?_)
  · exact ⟨d0, d1, d2⟩
  clear hK K
  (try simp only [Act.put, nA, nB, nC])
  refine wpAnyM_oneS 4 rfl (by kernel_rfl) (fun K hK => ?_)
  go_simp
  (refine (DV.out _).mono ?_; rintro e w4 ⟨rfl, hb4⟩)
  (try dsimp only)
  (try simp only [Act.put, nA, nB, nC])
  clear hHeld
  refine hK.out _ _ ?_ (fun hHeld => ?_)
  · exact ⟨(hb4.cell z3).trans d0, (hb4.cell z3).trans d1, (hb4.cell z3).trans d2⟩
  clear hK K
  (try simp only [Act.put, nA, nB, nC])
  refine wpAnyM_oneS 5 rfl (by kernel_rfl) (fun K hK => ?_)
  go_simp
  (refine (rend2_any c _ (dvM M Y) m _ ((hb4.cell (by (try simp); omega)).trans (by simpa using k1)) ((hb4.frozen (by (try simp); omega)).trans (by simpa using k2))).mono ?_; rintro e w5 ⟨rfl, hu5⟩)
  (try dsimp only)
  (try simp only [Act.put, nA, nB, nC])
  clear hHeld
  refine hK.out _ _ ?_ (fun hHeld => ?_)
  · have z4 : w2.heap.size < w4.heap.size := Nat.lt_of_lt_of_le z3 hb4.size; exact ⟨(hu5.cell z4 (nc 0)).trans ((hb4.cell z3).trans d0), (hu5.cell z4 (nc 1)).trans ((hb4.cell z3).trans d1), (hu5.cell z4 (nc 2)).trans ((hb4.cell z3).trans d2)⟩
  clear hK K
  (try simp only [Act.put, nA, nB, nC])
  refine wpAnyM_one 6 rfl (by kernel_rfl) (fun K hK => ?_)
  go_simp
  refine hK.out _ _ (.inl (by kernel_rfl)) (fun _ => ?_)
  clear hK K
  (try simp only [Act.put, nA, nB, nC])
  refine wpAnyM_done (by kernel_rfl) ?_ _
  go_wp2_with fail
  go_ret
  refine ⟨rfl, ?_⟩
  exact HW.out.trans (Upd.after B3.out (Upd.after (Below.drew (Below.refl _ _)) (Upd.after hb4 hu5)))
set_option maxHeartbeats 2000000 in
theorem rdivs0 (c : Addr) (h : Bool) (a b s : Int) (w : World) (hc : w.cell? c = some (.bool h)) (hf : w.frozen? c = false) (hy : satV b = 0) :
  Calls Tryz.prog 97 #[.pointer (some c), .int .i64 a, .int .i64 b, .int .i64 s] w fun e w' =>
   e = .returned (.int .i64 (if satV a = 0 then 0 else if satV a < 0 then -1152921504606846976 else 1152921504606846976)) ∧ Upd c true w w' := by
 obtain ⟨x, hx⟩ : ∃ x, satV a = x := ⟨_, rfl⟩
 have c1 : (w.setCell c (.bool (h || satH a))).cell? c = some (.bool (h || satH a)) := World.cell?_setCell_same _ _ _ hc
 have c2 : ((w.setCell c (.bool (h || satH a))).setCell c (.bool (h || satH a || satH b))).cell? c = some (.bool (h || satH a || satH b)) := World.cell?_setCell_same _ _ _ c1
 have F2 : ((w.setCell c (.bool (h || satH a))).setCell c (.bool (h || satH a || satH b))).frozen? c = false := by simp [hf]
 have HV := Lib.hid (show ∀ v, (if x = 0 then 0 else if x < 0 then -1152921504606846976 else 1152921504606846976) = v → (if satV a = 0 then 0 else if satV a < 0 then -1152921504606846976 else 1152921504606846976) = v from fun v hv => by rw [hx]; exact hv)
 have C2 := Lib.hid c2
 have HF2 := Lib.hid F2
 clear c2 F2
 have HX := Lib.hid (show (0 < x ∨ x = 0 ∨ x < 0) by omega)
 rcases HX.out with g | g | g
 ·have g1 : decide (0 < x) = true := by simpa using g
  rw [HV.out 1152921504606846976 (by rw [if_neg (by omega), if_neg (by omega)])]
  clear HX HV g
  go_enter Tryz.func97, Tryz.ntmps97
  go_upto_region 2 with (refine (rsat_any c h a _ hc hf).mono ?_; rintro e w' ⟨rfl, rfl⟩)
  go_upto_region 3 with (refine (rsat_any c _ b _ c1 (by simp [hf])).mono ?_; rintro e w' ⟨rfl, rfl⟩)
  have HW := Lib.hid (Upd.trans (Upd.trans (Upd.set c (h || satH a) w) (Upd.set c (h || satH a || satH b) _)) (Upd.set c true _))
  have c2 := C2.out
  have f2 := HF2.out
  clear C2 HF2 c1
  generalize (w.setCell c (.bool (h || satH a))).setCell c (.bool (h || satH a || satH b)) = w2 at *
  go_wp2_with fail
  go_ret
  exact ⟨rfl, HW.out⟩
 ·subst g
  have g1 : decide ((0 : Int) < 0) = false := by decide
  rw [HV.out 0 (by rw [if_pos rfl])]
  clear HX HV
  go_enter Tryz.func97, Tryz.ntmps97
  go_upto_region 2 with (refine (rsat_any c h a _ hc hf).mono ?_; rintro e w' ⟨rfl, rfl⟩)
  go_upto_region 3 with (refine (rsat_any c _ b _ c1 (by simp [hf])).mono ?_; rintro e w' ⟨rfl, rfl⟩)
  have HW := Lib.hid (Upd.trans (Upd.trans (Upd.set c (h || satH a) w) (Upd.set c (h || satH a || satH b) _)) (Upd.set c true _))
  have c2 := C2.out
  have f2 := HF2.out
  clear C2 HF2 c1
  generalize (w.setCell c (.bool (h || satH a))).setCell c (.bool (h || satH a || satH b)) = w2 at *
  go_wp2_with fail
  go_ret
  exact ⟨rfl, HW.out⟩
 ·have g1 : decide (0 < x) = false := by simp; omega
  have g2 : decide (x < 0) = true := by simpa using g
  rw [HV.out (-1152921504606846976) (by rw [if_neg (by omega), if_pos g])]
  clear HX HV g
  go_enter Tryz.func97, Tryz.ntmps97
  go_upto_region 2 with (refine (rsat_any c h a _ hc hf).mono ?_; rintro e w' ⟨rfl, rfl⟩)
  go_upto_region 3 with (refine (rsat_any c _ b _ c1 (by simp [hf])).mono ?_; rintro e w' ⟨rfl, rfl⟩)
  have HW := Lib.hid (Upd.trans (Upd.trans (Upd.set c (h || satH a) w) (Upd.set c (h || satH a || satH b) _)) (Upd.set c true _))
  have c2 := C2.out
  have f2 := HF2.out
  clear C2 HF2 c1
  generalize (w.setCell c (.bool (h || satH a))).setCell c (.bool (h || satH a || satH b)) = w2 at *
  go_wp2_with fail
  go_ret
  exact ⟨rfl, HW.out⟩
theorem dv_fact (s : Nat) (x y : Int) (X M P : Nat) (hX : x.natAbs = X) (hp : 2 ^ s = P) (hM : X * P = M) (hy : y ≠ 0) : rdiv (x * 2 ^ s) y = sv (sg2 x y) (dvM M y.natAbs) := by
 rw [rdiv_sg _ _ hy, sg2_pow]
 congr 2
 rw [Int.natAbs_mul, hX, ← hM, ← hp]
 congr 1
theorem sg2_ne (x y : Int) : (!decide (x < 0) == decide (y < 0)) = sg2 x y := by
 unfold sg2
 by_cases h1 : x < 0 <;> by_cases h2 : y < 0 <;> simp [h1, h2]
theorem rdiv30_any (c : Addr) (h : Bool) (a b : Int) (w : World) (hc : w.cell? c = some (.bool h)) (hf : w.frozen? c = false) :
  Calls Tryz.prog 97 #[.pointer (some c), .int .i64 a, .int .i64 b, .int .i64 30] w fun e w' => e = .returned (.int .i64 (divV a b 30)) ∧ Upd c (h || divH a b 30) w w' := by
 by_cases hy : satV b = 0
 ·have e2 : (h || divH a b 30) = true := by simp [divH, byH, hy]
  have hp : (0 : Int) < 2 ^ 30 := by decide
  have e1 : divV a b 30 = (if satV a = 0 then 0 else if satV a < 0 then -1152921504606846976 else 1152921504606846976) := by
   unfold divV byV
   rw [if_neg (by decide), if_pos hy]
   rw [show ((30 : Int).toNat) = 30 from rfl]
   generalize satV a = x
   have k : (2 : Int) ^ 30 = 1073741824 := by decide
   rw [k]
   by_cases h0 : x = 0
   ·rw [if_pos (by omega), if_pos h0]
   ·rw [if_neg (by omega), if_neg h0]
    by_cases h1 : x < 0
    ·rw [if_pos (by omega), if_pos h1]
    ·rw [if_neg (by omega), if_neg h1]
  rw [e1, e2]
  exact rdivs0 c h a b 30 w hc hf hy
 ·have k := dv_fact 30 (satV a) (satV b) _ _ 1073741824 rfl (by decide) rfl hy
  have e1 : divV a b 30 = satV (sv (sg2 (satV a) (satV b)) (dvM ((satV a).natAbs * 1073741824) (satV b).natAbs)) := by
   rw [← k]; unfold divV byV
   rw [if_neg (by decide), if_neg hy]; rfl
  have e2 : (h || divH a b 30) = (h || satH a || satH b || satH (sv (sg2 (satV a) (satV b)) (dvM ((satV a).natAbs * 1073741824) (satV b).natAbs))) := by
   rw [← k]; unfold divH byH
   rw [show decide ((30 : Int) < 0 ∨ 66 < (30 : Int)) = false by decide, show decide (satV b = 0) = false by simpa using hy]
   simp only [Bool.false_or, Bool.or_assoc]; rfl
  rw [e1, e2]
  exact rdivs30 c h a b _ _ _ _ _ _ _ _ w hc hf rfl rfl rfl rfl rfl rfl rfl (sg2_ne _ _) (by simpa using hy)
theorem rd_any (c : Addr) (h : Bool) (a b : Int) (w : World) (hc : w.cell? c = some (.bool h)) (hf : w.frozen? c = false) :
  Calls Tryz.prog 67 #[.pointer (some c), .int .i64 a, .int .i64 b] w fun e w' => e = .returned (.int .i64 (divV a b 30)) ∧ Upd c (h || divH a b 30) w w' := by
 go_enter Tryz.func67, Tryz.ntmps67
 go_wp2_with fail
 refine (rdiv30_any c h a b _ hc hf).mono ?_; rintro e w1 ⟨rfl, hu⟩
 go_wp2_with fail
 go_ret
 exact ⟨rfl, hu⟩
end Go.Proofs.YtgfklheepkgedaaGreat
/- Contract of the reference's root: bit by bit. -/
namespace Go.Proofs.YtgfklheepkgedaaGreat
open Go.RowKit
open Go (bits)
set_option maxRecDepth 100000
/-- The reference's root behind n of 64 bits. -/
def rfR (A : Nat) : Nat → Nat | 0 => 0 | n + 1 => if (rfR A n + 2 ^ (63 - n)) * (rfR A n + 2 ^ (63 - n)) ≤ A then rfR A n + 2 ^ (63 - n) else rfR A n
theorem rfR_inv (A : Nat) (hA : A < 2 ^ 128) : ∀ n, n ≤ 64 → (∃ q, rfR A n = q * 2 ^ (64 - n)) ∧ rfR A n * rfR A n ≤ A ∧ A < (rfR A n + 2 ^ (64 - n)) * (rfR A n + 2 ^ (64 - n))
 | 0, _ => ⟨⟨0, by simp [rfR]⟩, by simp [rfR], by simp only [rfR, Nat.zero_add, Nat.sub_zero]; rw [← Nat.pow_add]; exact hA⟩
 | n + 1, hn => by
  obtain ⟨⟨q, hq⟩, h1, h2⟩ := rfR_inv A hA n (by omega)
  have e : 64 - n = (63 - n) + 1 := by omega
  rw [e, Nat.pow_succ] at hq h2
  rw [show 64 - (n + 1) = 63 - n by omega]
  simp only [rfR]
  generalize 2 ^ (63 - n) = p at *
  by_cases h : (rfR A n + p) * (rfR A n + p) ≤ A
  ·rw [if_pos h]
   refine ⟨⟨2 * q + 1, by rw [hq]; grind⟩, h, ?_⟩
   rw [show rfR A n + p + p = rfR A n + p * 2 by omega]; exact h2
  ·rw [if_neg h]
   exact ⟨⟨2 * q, by rw [hq]; grind⟩, h1, by omega⟩
theorem sq_lt_of {a b A : Nat} (h1 : a * a ≤ A) (h2 : A < (b + 1) * (b + 1)) : a ≤ b := by
 rcases Nat.lt_or_ge b a with h | h
 ·have : (b + 1) * (b + 1) ≤ a * a := Nat.mul_le_mul h h
  omega
 ·exact h
theorem rfR_root (A : Nat) (hA : A < 2 ^ 126) : rootV A = (if rfR A 64 < A - rfR A 64 * rfR A 64 then rfR A 64 + 1 else rfR A 64) ∧ rfR A 64 * rfR A 64 ≤ A ∧ A - rfR A 64 * rfR A 64 ≤ 2 * rfR A 64 ∧ rfR A 64 < 9223372036854775808 := by
 have hA8 : A < 2 ^ 128 := Nat.lt_trans hA (by decide)
 obtain ⟨_, h1, h2⟩ := rfR_inv A hA8 64 (by decide)
 obtain ⟨R, g1, g2, g3⟩ := rootS_inv A hA8 64 (by decide)
 simp only [show 64 - 64 = 0 from rfl, Nat.pow_zero, Nat.mul_one] at h2 g1 g3
 have e : rfR A 64 = R := Nat.le_antisymm (sq_lt_of h1 g3) (sq_lt_of (by omega) h2)
 have ex : (R + 1) * (R + 1) = R * R + 2 * R + 1 := by grind
 rw [e] at h1 h2 ⊢
 refine ⟨?_, h1, by omega, ?_⟩
 ·unfold rootV
  rw [g1, show (rootS A 64).1 = A - R * R by omega]
 ·rcases Nat.lt_or_ge R 9223372036854775808 with h | h
  ·exact h
  ·have h4 : 9223372036854775808 * 9223372036854775808 ≤ R * R := Nat.mul_le_mul h h
   have h5 : (2 : Nat) ^ 126 = 85070591730234615865843651857942052864 := by decide
   omega
theorem rfR_64 (A : Nat) (hA : A < 2 ^ 126) (n : Nat) (hn : n < 64) : rfR A n + 2 ^ (63 - n) < 18446744073709551616 := by
 obtain ⟨⟨q, hq⟩, h1, h2⟩ := rfR_inv A (Nat.lt_trans hA (by decide)) n (by omega)
 have hp : 2 ^ (63 - n) ≤ 2 ^ 63 := Nat.pow_le_pow_right (by decide) (by omega)
 have h6 : (2 : Nat) ^ 63 = 9223372036854775808 := by decide
 rcases Nat.lt_or_ge (rfR A n) 9223372036854775808 with h | h
 ·omega
 ·have h4 : 9223372036854775808 * 9223372036854775808 ≤ rfR A n * rfR A n := Nat.mul_le_mul h h
  have h5 : (2 : Nat) ^ 126 = 85070591730234615865843651857942052864 := by decide
  omega
theorem rfR_or (A : Nat) (hA : A < 2 ^ 126) (n : Nat) (hn : n < 64) : bits .or .u64 ((rfR A n : Nat) : Int) (2 ^ (63 - n)) = ((rfR A n + 2 ^ (63 - n) : Nat) : Int) := by
 obtain ⟨⟨q, hq⟩, h1, h2⟩ := rfR_inv A (Nat.lt_trans hA (by decide)) n (by omega)
 have hb := rfR_64 A hA n hn
 rw [show 64 - n = (63 - n) + 1 by omega] at hq
 obtain ⟨s, hs⟩ : ∃ s, 63 - n = s := ⟨_, rfl⟩
 rw [hs] at hq hb ⊢
 have hlt : q * 2 ^ (s + 1) < 18446744073709551616 := by rw [← hq]; exact Nat.lt_of_le_of_lt (Nat.le_add_right _ _) hb
 have h := (or_lo q s (Nat.lt_trans hlt (by decide)) (by omega)).1
 have e1 : lo64 ((q * 2 ^ (s + 1) : Nat) : Int) = ((q * 2 ^ (s + 1) : Nat) : Int) := by
  generalize q * 2 ^ (s + 1) = X at *
  unfold lo64; omega
 have e2 : (2 * q + 1) * 2 ^ s = q * 2 ^ (s + 1) + 2 ^ s := by rw [Nat.pow_succ]; grind
 rw [hq]
 rw [e1, e2] at h
 rw [h]
 rw [hq] at hb
 generalize q * 2 ^ (s + 1) + 2 ^ s = Y at *
 unfold lo64; omega
structure RrR (A : Nat) (w wr : World) : Prop where
 below : Below w.heap.size w wr
 a : Wid wr w.heap.size A false
 z : Wid wr (w.heap.size + 1) 0 false
set_option maxHeartbeats 8000000 in
theorem rroot_any (A : Nat) (w : World) (hA : A < 2 ^ 126) :
  Calls Tryz.prog 96 #[.agg #[.int .u64 (hi64 (A : Int)), .int .u64 (lo64 (A : Int)), .bool false]] w fun e w' =>
   e = .returned (.agg #[.int .u64 (hi64 (rootV A : Nat)), .int .u64 (lo64 (rootV A : Nat)), .bool false]) ∧ Below w.heap.size w w' := by
 have HA := Lib.hid hA
 clear hA
 have R0 : Hid (RrR A w ((w.alloc (.cells #[.int .u64 (hi64 (A : Int)), .int .u64 (lo64 (A : Int)), .bool false] 137)).alloc (.cells #[.int .u64 0, .int .u64 0, .bool false] 137))) := by
  refine Lib.hid ⟨by (repeat (first | with_reducible exact Below.refl _ _ | with_reducible apply Below.drew | (with_reducible refine below_drewN ?_ _) | (with_reducible refine Below.alloc ?_ (by (try simp) <;> omega) _) | (with_reducible refine Below.setCell ?_ (by (try simp) <;> omega) _))), (Wid.new w (A : Int) false).alloc _, ?_⟩
  have h := Wid.new (w.alloc (.cells #[.int .u64 (hi64 (A : Int)), .int .u64 (lo64 (A : Int)), .bool false] 137)) 0 false
  rw [show hi64 0 = 0 by decide, show lo64 0 = 0 by decide] at h
  simpa using h
 go_enter Tryz.func96, Tryz.ntmps96
 go_upto_region 1 with fail
 generalize (w.alloc (.cells #[.int .u64 (hi64 (A : Int)), .int .u64 (lo64 (A : Int)), .bool false] 137)).alloc (.cells #[.int .u64 0, .int .u64 0, .bool false] 137) = W0 at *
 go_wp2_with fail
 go_loopw [3, 4] (fun v3 v4 wr => ∃ (k : Nat) (i : Int), k ≤ 64 ∧ i = 63 - (k : Int) ∧ v4 = .int .i64 i ∧ v3 = .int .u64 ((rfR A k : Nat) : Int) ∧ Hid (RrR A w wr)) (fun _ v _ => (intOf v + 1).toNat)
 case atStart => exact ⟨0, 63, by omega, by omega, rfl, rfl, R0⟩
 case round =>
  obtain ⟨k, i, hk, hi, rfl, rfl, R⟩ := hrel
  clear R0
  obtain ⟨bw, ba, zb⟩ := R.out
  obtain ⟨⟨c0, c1, c2⟩, _⟩ := ba.c
  have HR := Lib.hid R.out
  clear R
  by_cases hlt : k < 64
  ·obtain ⟨s, hs⟩ : ∃ s, 63 - k = s := ⟨_, rfl⟩
   obtain rfl : i = (s : Int) := by omega
   have s64 : s < 64 := by omega
   have g1 : decide (0 ≤ (s : Int)) = true := by simp
   have f2 : IntKind.u64.wrap (s : Int) = (s : Int) := by rw [IntKind.wrap_u64]; omega
   have f5 := pow_wrap s s64
   have f6 : min s 64 = s := by omega
   have fo := rfR_or A HA.out k hlt
   have fb := rfR_64 A HA.out k hlt
   have fs : rfR A (k + 1) = if (rfR A k + 2 ^ s) * (rfR A k + 2 ^ s) ≤ A then rfR A k + 2 ^ s else rfR A k := by simp only [rfR]; rw [hs]
   rw [hs] at fo fb
   obtain ⟨X, hX⟩ : ∃ X, rfR A k + 2 ^ s = X := ⟨_, rfl⟩
   rw [hX] at fo fb fs
   have HK := Lib.hid (And.intro hk hs)
   have FS := Lib.hid fs
   have FB := Lib.hid fb
   clear hX fs hk hi
   obtain ⟨r, hr⟩ : ∃ r, rfR A k = r := ⟨_, rfl⟩
   rw [hr] at fo ⊢
   have HRR := Lib.hid hr
   clear hr
   by_cases hx : X * X ≤ A
   ·have e : ¬ ((A : Int) < (X : Int) * (X : Int)) := by rw [← Int.natCast_mul]; omega
    have dl : decide ((A : Int) < (X : Int) * (X : Int)) = false := by simpa using e
    clear e fb
    go_wp2_with (first | (go_at_call 120; (refine (rproduct_any (X : Int) (X : Int) _ (by omega) (by have := FB.out; omega) (by omega) (by have := FB.out; omega)).mono ?_); rintro e w1 ⟨rfl, rfl⟩) | (go_at_call 119; (refine (rless_any (A : Int) ((X : Int) * (X : Int)) false false _).mono ?_); rintro e w2 ⟨rfl, hb2⟩; (rw [dl]); have R2 : Hid (RrR A w w2) := Lib.hid ⟨Below.after HR.out.below hb2, HR.out.a.below hb2, HR.out.z.below hb2⟩; clear hb2))
    go_roundw
    case rel =>
     refine ⟨k + 1, (s : Int) - 1, by have := HK.out; omega, by have := HK.out; omega, by go_num, ?_, R2⟩
     rw [FS.out, if_pos hx]
    case measure => simp [intOf]
   ·have e : ((A : Int) < (X : Int) * (X : Int)) := by rw [← Int.natCast_mul]; omega
    have dl : decide ((A : Int) < (X : Int) * (X : Int)) = true := by simpa using e
    clear e fb
    go_wp2_with (first | (go_at_call 120; (refine (rproduct_any (X : Int) (X : Int) _ (by omega) (by have := FB.out; omega) (by omega) (by have := FB.out; omega)).mono ?_); rintro e w1 ⟨rfl, rfl⟩) | (go_at_call 119; (refine (rless_any (A : Int) ((X : Int) * (X : Int)) false false _).mono ?_); rintro e w2 ⟨rfl, hb2⟩; (rw [dl]); have R2 : Hid (RrR A w w2) := Lib.hid ⟨Below.after HR.out.below hb2, HR.out.a.below hb2, HR.out.z.below hb2⟩; clear hb2))
    go_roundw
    case rel =>
     refine ⟨k + 1, (s : Int) - 1, by have := HK.out; omega, by have := HK.out; omega, by go_num, ?_, R2⟩
     rw [FS.out, if_neg hx, HRR.out]
    case measure => simp [intOf]
  ·obtain rfl : k = 64 := by omega
   obtain rfl : i = -1 := by omega
   obtain ⟨y1, y2, y3, y4⟩ := rfR_root A HA.out
   obtain ⟨r, hr⟩ : ∃ r, rfR A 64 = r := ⟨_, rfl⟩
   rw [hr] at y1 y2 y3 y4 ⊢
   have Y1 := Lib.hid y1
   clear hr hlt hk hi y1
   obtain ⟨S, hS⟩ : ∃ S, r * r = S := ⟨_, rfl⟩
   obtain ⟨D, hD⟩ : ∃ D, A - S = D := ⟨_, rfl⟩
   rw [hS] at y2 y3 Y1
   rw [hD] at y3 Y1
   have hA126 : A < 85070591730234615865843651857942052864 := HA.out
   have em : adM false true A S = D := by unfold adM; rw [if_neg (by decide), if_neg (by omega)]; exact hD
   have es : adS false true A S = false := by unfold adS; rw [if_neg (by decide), if_neg (by omega)]
   have er : (r : Int) * (r : Int) = (S : Int) := by rw [← Int.natCast_mul, hS]
   have AD := Lib.hid (fun w => radd_any A S false true w (by omega))
   rw [em, es] at AD
   have ed1 : hi64 (D : Int) = 0 := by unfold hi64; omega
   have ed2 : lo64 (D : Int) = (D : Int) := by unfold lo64; omega
   rw [ed1, ed2] at AD
   have PR := Lib.hid (fun w => rproduct_any (r : Int) (r : Int) w (by omega) (by omega) (by omega) (by omega))
   rw [er] at PR
   have y5 : (r : Int) < 9223372036854775808 := by omega
   have y6 : (0 : Int) ≤ (r : Int) := Int.natCast_nonneg _
   clear hS hD em es er ed1 ed2 hA126 y2 y3 y4
   have g0 : decide ((0 : Int) < 0) = false := by decide
   by_cases hd : r < D
   ·have g1 : decide (r < D) = true := by simpa using hd
    have g2 : decide ((r : Int) < (D : Int)) = true := by simp; omega
    have g3 : ((r : Int) + 1 == 0) = false := by simp; omega
    rw [if_pos hd] at Y1
    go_wp2_with (first | (go_at_call 120; (refine (PR.out _).mono ?_); rintro e w1 ⟨rfl, rfl⟩) | (go_at_call 93; (refine (AD.out _).mono ?_); rintro e w2 ⟨rfl, hb2⟩; have R2 := Lib.hid (Below.after HR.out.below hb2); have z2 := (HR.out.z.below hb2).c.2; have hz2 : w.heap.size + 1 < w2.heap.size := (HR.out.z.below hb2).lt; have z3 := (HR.out.z.below hb2).c.1; clear hb2))
    refine bodyPost_ret (v := .agg #[.int .u64 0, .int .u64 ((r : Int) + 1), .bool false]) (by simp [results, Tryz.results96, go_sem, *]) rfl ⟨?_, ?_⟩
    ·rw [Y1.out, show hi64 (((r + 1 : Nat) : Int)) = 0 by unfold hi64; omega, show lo64 (((r + 1 : Nat) : Int)) = (r : Int) + 1 by unfold lo64; omega]
    ·have bw := R2.out
     (repeat (first | exact bw | (refine Below.alloc ?_ (by (try simp); have := bw.size; omega) _) | (refine Below.setCell ?_ (by (try simp) <;> omega) _)))
   ·have g1 : decide (r < D) = false := by simpa using hd
    have g2 : decide ((r : Int) < (D : Int)) = false := by simp; omega
    have g3 : ((r : Int) == 0) = decide (r = 0) := by rw [Bool.eq_iff_iff]; simp
    rw [if_neg hd] at Y1
    go_wp2_with (first | (go_at_call 120; (refine (PR.out _).mono ?_); rintro e w1 ⟨rfl, rfl⟩) | (go_at_call 93; (refine (AD.out _).mono ?_); rintro e w2 ⟨rfl, hb2⟩; have R2 := Lib.hid (Below.after HR.out.below hb2); have z2 := (HR.out.z.below hb2).c.2; have hz2 : w.heap.size + 1 < w2.heap.size := (HR.out.z.below hb2).lt; have z3 := (HR.out.z.below hb2).c.1; clear hb2))
    refine bodyPost_ret (v := .agg #[.int .u64 0, .int .u64 (r : Int), .bool false]) (by simp [results, Tryz.results96, go_sem, *]) rfl ⟨?_, ?_⟩
    ·rw [Y1.out, show hi64 (((r : Nat) : Int)) = 0 by unfold hi64; omega, show lo64 (((r : Nat) : Int)) = (r : Int) by unfold lo64; omega]
    ·have bw := R2.out
     (repeat (first | exact bw | (refine Below.alloc ?_ (by (try simp); have := bw.size; omega) _) | (refine Below.setCell ?_ (by (try simp) <;> omega) _)))
end Go.Proofs.YtgfklheepkgedaaGreat
/- Contract of the reference's Hypot. -/
namespace Go.Proofs.YtgfklheepkgedaaGreat
open Go.RowKit
set_option maxRecDepth 100000
structure RHyR (c : Addr) (h : Bool) (A : Nat → Int) (w : World) (k : Nat) (M : Nat) (wr : World) : Prop where
 upd : Upd c (h || orB (fun i => satH (A i)) k) w wr
 s : Wid wr w.heap.size M false
 e : (M : Int) = dotS A A k
 b : M ≤ k * 1329227995784915872903807060280344576
theorem sg2_self (x : Int) : sg2 x x = false := by unfold sg2; simp
theorem adM_ff (M N : Nat) : adM false false M N = M + N := by unfold adM; rw [if_pos (by decide)]
theorem adS_ff (M N : Nat) : adS false false M N = false := by unfold adS; rw [if_pos (by decide)]
set_option maxHeartbeats 4000000 in
theorem rhypot_any (c : Addr) (h : Bool) (A : Nat → Int) (pa oa ca n : Nat) (w : World) (hc : w.cell? c = some (.bool h)) (hf : w.frozen? c = false) (hn : n ≤ 32)
  (hA : ∀ i, i < n → w.cell? ⟨pa, oa + i, none⟩ = some (.int .i64 (A i))) :
  Calls Tryz.prog 66 #[.pointer (some c), .slice (some ⟨pa, oa, none⟩) n ca] w fun e w' =>
   e = .returned (.int .i64 (hypV A n)) ∧ Upd c (h || hypH A n) w w' := by
 have hcb := World.block_lt_of_cell? w c hc
 have HA := Lib.hid hA
 have HC := Lib.hid hc
 have HF := Lib.hid hf
 have R0 : Hid (RHyR c h A w 0 0 (w.alloc (.cells #[.int .u64 0, .int .u64 0, .bool false] 137))) := by
  refine Lib.hid ⟨?_, ?_, by simp [dotS], by omega⟩
  ·rw [show (h || orB (fun i => satH (A i)) 0) = h from by simp [orB]]
   exact Upd.then (Upd.refl hc) (by (repeat (first | with_reducible exact Below.refl _ _ | with_reducible apply Below.drew | (with_reducible refine below_drewN ?_ _) | (with_reducible refine Below.alloc ?_ (by (try simp) <;> omega) _) | (with_reducible refine Below.setCell ?_ (by (try simp) <;> omega) _))))
  ·have := Wid.new w 0 false
   rw [show hi64 0 = 0 by decide, show lo64 0 = 0 by decide] at this
   exact this
 clear hA hc hf
 go_enter Tryz.func66, Tryz.ntmps66
 go_upto_region 2 with fail
 generalize w.alloc (.cells #[.int .u64 0, .int .u64 0, .bool false] 137) = W0 at *
 go_wp2_with fail
 go_loopw [6] (fun i wr => ∃ (k M : Nat), k ≤ n ∧ i = .int .i64 k ∧ Hid (RHyR c h A w k M wr)) (fun i _ => n - (intOf i).toNat)
 case atStart => exact ⟨0, 0, Nat.zero_le _, rfl, R0⟩
 case round =>
  obtain ⟨k, M, hk, rfl, R⟩ := hrel
  clear R0
  by_cases hlt : k < n
  ·have q1 : decide (k < n) = true := by simpa using hlt
   have q2 : decide ((k : Int) < 64) = true := by simp; omega
   have a0 := HA.out k hlt
   have u := R.out.upd
   have ra : wr.cell? ⟨pa, oa + k, none⟩ = some (.int .i64 (A k)) := (u.cell (World.block_lt_of_cell? w _ a0) (ne_of_cells HC.out a0)).trans a0
   have rc : wr.cell? c = some (.bool (h || orB (fun i => satH (A i)) k)) := u.cellc HC.out
   have rf : wr.frozen? c = false := (u.frozen hcb).trans HF.out
   have hs := R.out.s
   have nS : w.heap.size ≠ c.block := by omega
   obtain ⟨P, hP⟩ : ∃ P, (satV (A k)).natAbs * (satV (A k)).natAbs = P := ⟨_, rfl⟩
   have hPb : P ≤ 1329227995784915872903807060280344576 := by rw [← hP]; exact abs_prod_bd _ _
   have hMb : M ≤ 42535295865117307932921825928971026432 := Nat.le_trans R.out.b (Nat.le_trans (Nat.mul_le_mul_right _ (by omega : k ≤ 32)) (by decide))
   have MU := Lib.hid (fun w => rmul_any (satV (A k)) (satV (A k)) (P : Int) w (satV_bd _).1 (satV_bd _).2 (satV_bd _).1 (satV_bd _).2 (by rw [← hP]; simp))
   rw [sg2_self] at MU
   have AD := Lib.hid (fun w => radd_any M P false false w (by omega))
   rw [adM_ff, adS_ff] at AD
   have HE := Lib.hid (show ((M + P : Nat) : Int) = dotS A A (k + 1) ∧ M + P ≤ (k + 1) * 1329227995784915872903807060280344576 by
    refine ⟨?_, ?_⟩
    ·have e2 : ((P : Nat) : Int) = satV (A k) * satV (A k) := by rw [← hP]; exact Int.natAbs_mul_self
     simp only [dotS]
     rw [Int.natCast_add, R.out.e, e2]
    ·have := R.out.b; omega)
   obtain ⟨N, hN⟩ : ∃ N, M + P = N := ⟨_, rfl⟩
   rw [hN] at AD HE
   obtain ⟨x, hx⟩ : ∃ x, satV (A k) = x := ⟨_, rfl⟩
   rw [hx] at MU
   obtain ⟨H1, hH1⟩ : ∃ y, (h || orB (fun i => satH (A i)) k) = y := ⟨_, rfl⟩
   obtain ⟨H2, hH2⟩ : ∃ y, (H1 || satH (A k)) = y := ⟨_, rfl⟩
   rw [hH1] at rc u
   have SA := Lib.hid (rsat_any c H1 (A k) wr rc rf)
   rw [hx, hH2] at SA
   have EK := Lib.hid (And.intro hH1 hH2)
   have U2 := Lib.hid (u.trans (Upd.set c H2 wr))
   have S2 : Hid (Wid (wr.setCell c (.bool H2)) w.heap.size M false) := Lib.hid (hs.other nS _)
   clear u hs hP hPb hMb hN a0 rc rf R hx hH1 hH2
   go_upto_region 6 with (go_at_call 76; (refine SA.out.mono ?_); rintro e w1 ⟨rfl, rfl⟩)
   generalize wr.setCell c (.bool H2) = W2 at *
   clear SA
   obtain ⟨⟨s0, s1, s2⟩, _⟩ := S2.out.c
   refine wp_region_M (fun w' => w'.cell? ⟨w.heap.size, 0, none⟩ = some (.int .u64 (hi64 (M : Int))) ∧ w'.cell? ⟨w.heap.size, 1, none⟩ = some (.int .u64 (lo64 (M : Int))) ∧ w'.cell? ⟨w.heap.size, 2, none⟩ = some (.bool false)) 5 (by kernel_rfl) ?_ (fun hHeld => ?_)
   ·exact ⟨s0, s1, s2⟩
   refine tl 0 (v := ?_) ?_ ?_
   rotate_left
   ·(intro wx hSw; obtain ⟨h0, h1, h2⟩ := hSw; go_simp; (try with_reducible rfl))
   (try simp only [Act.put, nA, nB, nC])
   refine tk 1 ?_
   (try simp only [Act.put, nA, nB, nC])
   refine tk 2 ?_
   (try simp only [Act.put, nA, nB, nC])
   refine wpAnyM_oneS 3 rfl (by kernel_rfl) (fun K hK => ?_)
   go_simp
   (refine (MU.out _).mono ?_); rintro e w3 ⟨rfl, hb3⟩; have U3 := Lib.hid (U2.out.drew.then hb3); have S3 := Lib.hid (Wid.below (w := W2.drew) S2.out hb3); clear hb3
   (try dsimp only)
   (try simp only [Act.put, nA, nB, nC])
   clear hHeld
   refine hK.out _ _ ?_ (fun hHeld => ?_)
   ·exact S3.out.c.1
   clear hK K
   (try simp only [Act.put, nA, nB, nC])
   refine wpAnyM_oneS 4 rfl (by kernel_rfl) (fun K hK => ?_)
   go_simp
   (refine (AD.out _).mono ?_); rintro e w4 ⟨rfl, hb4⟩; have U4 := Lib.hid (U3.out.then hb4); have S4 := Lib.hid (S3.out.below hb4); obtain ⟨_, y0, y1, y2⟩ := S4.out.c; obtain ⟨x0, x1, x2⟩ := S4.out.c.1; clear hb4
   (try dsimp only)
   (try simp only [Act.put, nA, nB, nC])
   clear hHeld
   refine hK.out _ _ ?_ (fun hHeld => ?_)
   ·exact S4.out.c.1
   clear hK K
   (try simp only [Act.put, nA, nB, nC])
   refine wpAnyM_one 5 rfl (by kernel_rfl) (fun K hK => ?_)
   go_simp
   refine hK.out _ _ (.inl (by kernel_rfl)) (fun _ => ?_)
   clear hK K
   (try simp only [Act.put, nA, nB, nC])
   refine wpAnyM_done (by kernel_rfl) ?_ _
   (try clear hHeld)
   have S5 := Lib.hid (S4.out.set (N : Int) false)
   go_wp2_with fail
   go_roundw
   case rel =>
    refine ⟨k + 1, N, by omega, by go_num, Lib.hid ⟨?_, S5.out, HE.out.1, HE.out.2⟩⟩
    rw [show (h || orB (fun i => satH (A i)) (k + 1)) = H2 from by rw [← EK.out.2, ← EK.out.1]; simp [orB, Bool.or_assoc]]
    exact ((U4.out.setCell (Nat.le_refl _) _).setCell (Nat.le_refl _) _).setCell (Nat.le_refl _) _
   case measure => simp [intOf]; omega
  ·have hkn : k = n := by omega
   subst hkn
   have q1 : decide (k < k) = false := by simp
   have u := R.out.upd
   have hMb : M ≤ 42535295865117307932921825928971026432 := Nat.le_trans R.out.b (Nat.le_trans (Nat.mul_le_mul_right _ (by omega : k ≤ 32)) (by decide))
   obtain ⟨H1, hH1⟩ : ∃ y, (h || orB (fun i => satH (A i)) k) = y := ⟨_, rfl⟩
   rw [hH1] at u
   have rc : wr.cell? c = some (.bool H1) := u.cellc HC.out
   have rf : wr.frozen? c = false := (u.frozen hcb).trans HF.out
   obtain ⟨⟨s0, s1, s2⟩, _⟩ := R.out.s.c
   have RT := Lib.hid (fun w => rroot_any M w (by omega))
   have ER := Lib.hid (show hypV A k = satV ((rootV M : Nat) : Int) ∧ (h || hypH A k) = (H1 || satH ((rootV M : Nat) : Int)) by
    unfold hypV hypH
    rw [← R.out.e, Int.toNat_natCast, ← hH1, Bool.or_assoc]
    exact ⟨rfl, rfl⟩)
   have HU := Lib.hid u
   have hwr := HU.out.size
   obtain ⟨V, hV⟩ : ∃ V, rootV M = V := ⟨_, rfl⟩
   rw [hV] at RT ER
   clear u hMb hV hH1 R
   go_wp2_with fail
   refine (RT.out _).mono ?_; rintro e w5 ⟨rfl, hb5⟩
   go_wp2_with fail
   refine (rend2_any c H1 V false _ ((hb5.cell (by omega)).trans rc) ((hb5.frozen (by omega)).trans rf)).mono ?_; rintro e w6 ⟨rfl, hu6⟩
   go_wp2_with fail
   go_ret
   rw [ER.out.1, ER.out.2]
   exact ⟨rfl, (HU.out.then hb5).trans hu6⟩
end Go.Proofs.YtgfklheepkgedaaGreat
/- Contracts of the reference's quaternions: sat, One, Unit. -/
namespace Go.Proofs.YtgfklheepkgedaaGreat
open Go.RowKit
set_option maxRecDepth 100000
theorem irq : (Tryz.prog.info? 43).map (·.size) = some 4 := by kernel_rfl
theorem arr4 (f : Nat → Int) : (#[.int .i64 (f 0), .int .i64 (f 1), .int .i64 (f 2), .int .i64 (f 3)] : Array Value) = arrv 4 f := by kernel_rfl
theorem rq_slc (w : World) (G : Nat → Int) (T : Nat) : ∀ i, i < 4 → (w.alloc (.cells #[.int .i64 (G 0), .int .i64 (G 1), .int .i64 (G 2), .int .i64 (G 3)] T)).cell? ⟨w.heap.size, 0 + i, none⟩ = some (.int .i64 (G i)) := by
 intro i hi
 obtain rfl | rfl | rfl | rfl : i = 0 ∨ i = 1 ∨ i = 2 ∨ i = 3 := by omega
 all_goals simp [go_sem]
theorem rqone_any (w : World) : Calls Tryz.prog 60 #[] w fun e w' => e = .returned (.agg (arrv 4 oneQ)) ∧ Below w.heap.size w w' := by
 go_enter Tryz.func60, Tryz.ntmps60
 go_wp2_with fail
 refine bodyPost_ret (v := .agg (arrv 4 oneQ)) (by rw [← oq4]; simp [results, Tryz.results60, go_sem, *]) rfl ⟨rfl, by (repeat (first | with_reducible exact Below.refl _ _ | with_reducible apply Below.drew | (with_reducible refine below_drewN ?_ _) | (with_reducible refine Below.alloc ?_ (by (try simp) <;> omega) _) | (with_reducible refine Below.setCell ?_ (by (try simp) <;> omega) _)))⟩
structure RqsR (c : Addr) (h : Bool) (A : Nat → Int) (w wr : World) : Prop where
 upd : Upd c h w wr
 blk : Blk wr w.heap.size 43 4 A
 res : Blk wr (w.heap.size + 1) 43 4 (fun _ => 0)
theorem RqsR.hit {c : Addr} {h h' : Bool} {A : Nat → Int} {w wr w' : World} (s : RqsR c h A w wr) (hc : c.block < w.heap.size) (e : wr.setCell c (.bool h') = w') : RqsR c h' A w w' := by
 subst e
 exact ⟨s.upd.trans (Upd.set c h' wr), s.blk.upd (Upd.set c h' wr) (by omega), s.res.upd (Upd.set c h' wr) (by omega)⟩
set_option maxHeartbeats 2000000 in
theorem rqsat_any (c : Addr) (h : Bool) (A : Nat → Int) (w : World) (hc : w.cell? c = some (.bool h)) (hf : w.frozen? c = false) :
  Calls Tryz.prog 65 #[.pointer (some c), .agg (arrv 4 A)] w fun e w' => e = .returned (.agg (arrv 4 (satA A))) ∧ Upd c (h || orB (fun i => satH (A i)) 4) w w' := by
 have hcb := World.block_lt_of_cell? w c hc
 have S0 : RqsR c h A w ((w.alloc (.cells (arrv 4 A) 43)).alloc (.cells #[.int .i64 0, .int .i64 0, .int .i64 0, .int .i64 0] 43)) :=
  ⟨Upd.then (Upd.refl hc) (by (repeat (first | with_reducible exact Below.refl _ _ | with_reducible apply Below.drew | (with_reducible refine below_drewN ?_ _) | (with_reducible refine Below.alloc ?_ (by (try simp) <;> omega) _) | (with_reducible refine Below.setCell ?_ (by (try simp) <;> omega) _)))), Blk.alloc (Blk.new w _ 4 A) _, by rw [zq4]; exact Blk.new1 w _ _ 4 _⟩
 have HC := Lib.hid hc
 have HF := Lib.hid hf
 clear hc hf
 go_enter Tryz.func65, Tryz.ntmps65
 go_upto_region 1 with fail
 generalize (w.alloc (.cells (arrv 4 A) 43)).alloc (.cells #[.int .i64 0, .int .i64 0, .int .i64 0, .int .i64 0] 43) = W0 at *
 have S1 := Lib.hid (RqsR.mk (w := w) S0.upd.drew S0.blk S0.res)
 have SA := Lib.hid (fun (g : Bool) (a : Int) (x : World) (s : RqsR c g A w x) => rsat_any c g a x (s.upd.cellc HC.out) ((s.upd.frozen hcb).trans HF.out))
 have EF := Lib.hid (show (h || orB (fun i => satH (A i)) 4) = (h || satH (A 0) || satH (A 1) || satH (A 2) || satH (A 3)) by simp [orB, Bool.or_assoc])
 clear S0
 refine wp_region_M (fun w' => Blk w' w.heap.size 43 4 A) 25 (by kernel_rfl) ?_ (fun hHeld => ?_)
 ·exact S1.out.blk
 refine tk 0 ?_
 (try simp only [Act.put, nA, nB, nC])
 refine tk 1 ?_
 (try simp only [Act.put, nA, nB, nC])
 refine tk 2 ?_
 (try simp only [Act.put, nA, nB, nC])
 refine tk 3 ?_
 (try simp only [Act.put, nA, nB, nC])
 refine tl 4 (v := ?_) ?_ ?_
 rotate_left
 ·(intro wx hSw; have q0 := Blk.cell (i := 0) hSw (by decide); go_simp; (try with_reducible rfl))
 (try simp only [Act.put, nA, nB, nC])
 refine tk 6 ?_
 (try simp only [Act.put, nA, nB, nC])
 refine tk 7 ?_
 (try simp only [Act.put, nA, nB, nC])
 refine tk 8 ?_
 (try simp only [Act.put, nA, nB, nC])
 refine tk 9 ?_
 (try simp only [Act.put, nA, nB, nC])
 refine tl 10 (v := ?_) ?_ ?_
 rotate_left
 ·(intro wx hSw; have q0 := Blk.cell (i := 1) hSw (by decide); go_simp; (try with_reducible rfl))
 (try simp only [Act.put, nA, nB, nC])
 refine tk 12 ?_
 (try simp only [Act.put, nA, nB, nC])
 refine tk 13 ?_
 (try simp only [Act.put, nA, nB, nC])
 refine tk 14 ?_
 (try simp only [Act.put, nA, nB, nC])
 refine tk 15 ?_
 (try simp only [Act.put, nA, nB, nC])
 refine tl 16 (v := ?_) ?_ ?_
 rotate_left
 ·(intro wx hSw; have q0 := Blk.cell (i := 2) hSw (by decide); go_simp; (try with_reducible rfl))
 (try simp only [Act.put, nA, nB, nC])
 refine tk 18 ?_
 (try simp only [Act.put, nA, nB, nC])
 refine tk 19 ?_
 (try simp only [Act.put, nA, nB, nC])
 refine tk 20 ?_
 (try simp only [Act.put, nA, nB, nC])
 refine tk 21 ?_
 (try simp only [Act.put, nA, nB, nC])
 refine tl 22 (v := ?_) ?_ ?_
 rotate_left
 ·(intro wx hSw; have q0 := Blk.cell (i := 3) hSw (by decide); go_simp; (try with_reducible rfl))
 (try simp only [Act.put, nA, nB, nC])
 refine wpAnyM_oneS 5 rfl (by kernel_rfl) (fun K hK => ?_)
 go_simp
 (refine (SA.out _ (A 0) _ S1.out).mono ?_); rintro e w1 ⟨rfl, h1⟩; have S2 := Lib.hid (S1.out.hit hcb h1); clear h1
 (try dsimp only)
 (try simp only [Act.put, nA, nB, nC])
 clear hHeld
 refine hK.out _ _ ?_ (fun hHeld => ?_)
 ·exact S2.out.blk
 clear hK K
 (try simp only [Act.put, nA, nB, nC])
 refine wpAnyM_oneS 11 rfl (by kernel_rfl) (fun K hK => ?_)
 go_simp
 (refine (SA.out _ (A 1) _ S2.out).mono ?_); rintro e w2 ⟨rfl, h2⟩; have S3 := Lib.hid (S2.out.hit hcb h2); clear h2
 (try dsimp only)
 (try simp only [Act.put, nA, nB, nC])
 clear hHeld
 refine hK.out _ _ ?_ (fun hHeld => ?_)
 ·exact S3.out.blk
 clear hK K
 (try simp only [Act.put, nA, nB, nC])
 refine wpAnyM_oneS 17 rfl (by kernel_rfl) (fun K hK => ?_)
 go_simp
 (refine (SA.out _ (A 2) _ S3.out).mono ?_); rintro e w3 ⟨rfl, h3⟩; have S4 := Lib.hid (S3.out.hit hcb h3); clear h3
 (try dsimp only)
 (try simp only [Act.put, nA, nB, nC])
 clear hHeld
 refine hK.out _ _ ?_ (fun hHeld => ?_)
 ·exact S4.out.blk
 clear hK K
 (try simp only [Act.put, nA, nB, nC])
 refine wpAnyM_oneS 23 rfl (by kernel_rfl) (fun K hK => ?_)
 go_simp
 (refine (SA.out _ (A 3) _ S4.out).mono ?_); rintro e w4 ⟨rfl, h4⟩; have S5 := Lib.hid (S4.out.hit hcb h4); have B5 := S5.out.res; clear h4
 (try dsimp only)
 (try simp only [Act.put, nA, nB, nC])
 clear hHeld
 refine hK.out _ _ ?_ (fun hHeld => ?_)
 ·exact S5.out.blk
 clear hK K
 (try simp only [Act.put, nA, nB, nC])
 refine tl 24 (v := ?_) ?_ ?_
 rotate_left
 ·(intro wx hSw; go_simp; rw [show (#[.int .i64 (satV (A 0)), .int .i64 (satV (A 1)), .int .i64 (satV (A 2)), .int .i64 (satV (A 3))] : Array Value) = arrv 4 (satA A) from arr4 (satA A)]; (try with_reducible rfl))
 (try simp only [Act.put, nA, nB, nC])
 refine wpAnyM_one 25 rfl (by kernel_rfl) (fun K hK => ?_)
 go_simp; rw [if_pos (arrv_size _ _), run_storeCells_row _ B5]; go_simp
 refine hK.out _ _ (.inl (by kernel_rfl)) (fun _ => ?_)
 clear hK K
 (try simp only [Act.put, nA, nB, nC])
 refine wpAnyM_done (by kernel_rfl) ?_ _
 (try clear hHeld)
 go_wp2_with fail
 refine bodyPost_ret (results_cell_row Tryz.results65 _ _ (w.heap.size + 1) 43 (arrv 4 (satA A)) (0, 0) _ rfl (setRow_heap _ _ _ _ _ _ B5) Tryz.underlying43 rfl (irq.trans (by rw [arrv_size]))) rfl ⟨rfl, ?_⟩
 rw [EF.out]
 exact S5.out.upd.then' (below_row (Below.refl _ _) (by omega) _)
structure RquR (c : Addr) (h : Bool) (g : Nat → Int) (w wr : World) : Prop where
 upd : Upd c h w wr
 blk : Blk wr w.heap.size 43 4 g
 res : Blk wr (w.heap.size + 1) 43 4 (fun _ => 0)
theorem RquR.upd' {c : Addr} {h h' : Bool} {g : Nat → Int} {w wr w' : World} (s : RquR c h g w wr) (hc : c.block < w.heap.size) (u : Upd c h' wr w') : RquR c h' g w w' :=
 ⟨s.upd.trans u, s.blk.upd u (by omega), s.res.upd u (by omega)⟩
set_option maxHeartbeats 2000000 in
theorem rqunit_any (c : Addr) (h : Bool) (A : Nat → Int) (w : World) (hc : w.cell? c = some (.bool h)) (hf : w.frozen? c = false) :
  Calls Tryz.prog 30 #[.pointer (some c), .agg (arrv 4 A)] w fun e w' => e = .returned (.agg (arrv 4 (uniV A))) ∧ Upd c (h || uniH A) w w' := by
 have hcb := World.block_lt_of_cell? w c hc
 have S0 : RquR c h A w ((w.alloc (.cells (arrv 4 A) 43)).alloc (.cells #[.int .i64 0, .int .i64 0, .int .i64 0, .int .i64 0] 43)) :=
  ⟨Upd.then (Upd.refl hc) (by (repeat (first | with_reducible exact Below.refl _ _ | with_reducible apply Below.drew | (with_reducible refine below_drewN ?_ _) | (with_reducible refine Below.alloc ?_ (by (try simp) <;> omega) _) | (with_reducible refine Below.setCell ?_ (by (try simp) <;> omega) _)))), Blk.alloc (Blk.new w _ 4 A) _, by rw [zq4]; exact Blk.new1 w _ _ 4 _⟩
 have HC := Lib.hid hc
 have HF := Lib.hid hf
 clear hc hf
 go_enter Tryz.func30, Tryz.ntmps30
 go_upto_region 1 with fail
 generalize (w.alloc (.cells (arrv 4 A) 43)).alloc (.cells #[.int .i64 0, .int .i64 0, .int .i64 0, .int .i64 0] 43) = W0 at *
 have P0 := S0.blk
 have H0 := Lib.hid S0
 have SC := Lib.hid (rqsat_any c h A W0 (S0.upd.cellc HC.out) ((S0.upd.frozen hcb).trans HF.out))
 clear S0
 go_upto_region 2 with (first | (refine wpList_load_row rfl 43 _ rfl (w.heap.size) rfl 43 _ (0, 0) _ (P0) Tryz.underlying43 rfl (irq.trans (by rw [arrv_size])) ?_) | (go_at_call 65; (refine SC.out.mono ?_); rintro e w1 ⟨rfl, hu1⟩; have P1 := P0.upd hu1 (by omega)) | (refine wpList_store_row rfl 43 _ _ rfl (w.heap.size) _ rfl rfl 43 _ (P1) (irq.trans (by rw [arrv_size])) (by rw [arrv_size, arrv_size]) (oneCell_arrv _ _) ?_))
 have S1 := H0.out.upd' hcb hu1
 have S2 : RquR c (h || orB (fun i => satH (A i)) 4) (satA A) w (w1.setRow w.heap.size (arrv 4 (satA A))) :=
  ⟨S1.upd.then' (below_row (Below.refl _ _) (Nat.le_refl _) _), S1.blk.setRow _, S1.res.setRow_other _ (by omega)⟩
 clear S1 SC P0 P1 H0 hu1
 generalize w1.setRow w.heap.size (arrv 4 (satA A)) = W1 at *
 have P2 := S2.blk
 have H2 := Lib.hid S2
 have EZ := zer4_eq (satA A)
 by_cases hz : zer4 (satA A) = true
 ·rw [hz] at EZ
  have e1 : uniV A = oneQ := by unfold uniV; rw [if_pos hz]
  have e2 : (h || uniH A) = (h || orB (fun i => satH (A i)) 4) := by unfold uniH; rw [if_pos hz, Bool.or_false]
  have EZ := Lib.hid EZ
  have E1 := Lib.hid (And.intro e1 e2)
  clear hz e1 e2 S2
  refine wp_region_lit ?_
  refine wpList_val (v := ?_) rfl ?_ ?_
  rotate_left
  ·refine Eq.trans (run_load_row 43 (.tmp 3) (by rfl) (w.heap.size) (by rfl) _ _ _ _ (P2) Tryz.underlying43 rfl (irq.trans (by rw [arrv_size]))) ?_; with_reducible rfl
  (try simp only [Act.put, nA, nB, nC])
  refine tv ?_
  (try simp only [Act.put, nA, nB, nC])
  refine wpList_val (v := ?_) rfl ?_ ?_
  rotate_left
  ·refine Eq.trans (run_op_eqlVec Tryz.underlying43 (by kernel_rfl) (.tmp 11) (.tmp 12) (by rfl) (by rfl) (g := fun _ => 0) (by rw [← zq4]; rfl) EZ.out) ?_; with_reducible rfl
  (try simp only [Act.put, nA, nB, nC])
  refine wpList_nil ?_
  have B1 := H2.out.res
  go_wp2_with fail
  refine (rqone_any _).mono ?_; rintro e w3 ⟨rfl, hb3⟩
  have R3 := B1.below hb3
  go_wp2_with (refine wpList_store_row rfl 43 _ _ rfl (w.heap.size + 1) _ rfl rfl 43 _ (R3) (irq.trans (by rw [arrv_size])) (by rw [arrv_size, arrv_size]) (oneCell_arrv _ _) ?_)
  refine bodyPost_ret (results_cell_row Tryz.results30 _ _ (w.heap.size + 1) 43 (arrv 4 oneQ) (0, 0) _ rfl (setRow_heap _ _ _ _ _ _ R3) Tryz.underlying43 rfl (irq.trans (by rw [arrv_size]))) rfl ⟨by rw [E1.out.1], ?_⟩
  rw [E1.out.2]
  exact (H2.out.upd.then hb3).then' (below_row (Below.refl _ _) (by omega) _)
 ·have hz2 : zer4 (satA A) = false := by simpa using hz
  rw [hz2] at EZ
  have e1 : uniV A = uniT (uniT (satA A)) := by unfold uniV; rw [if_neg hz]
  have e2 : (h || uniH A) = (h || orB (fun i => satH (A i)) 4 || turH (satA A) 2) := by unfold uniH; rw [if_neg hz, ← Bool.or_assoc]; simp [turH, turN]
  have EZ := Lib.hid EZ
  have E1 := Lib.hid (And.intro e1 e2)
  clear hz e1 e2 S2 hz2
  refine wp_region_lit ?_
  refine wpList_val (v := ?_) rfl ?_ ?_
  rotate_left
  ·refine Eq.trans (run_load_row 43 (.tmp 3) (by rfl) (w.heap.size) (by rfl) _ _ _ _ (P2) Tryz.underlying43 rfl (irq.trans (by rw [arrv_size]))) ?_; with_reducible rfl
  (try simp only [Act.put, nA, nB, nC])
  refine tv ?_
  (try simp only [Act.put, nA, nB, nC])
  refine wpList_val (v := ?_) rfl ?_ ?_
  rotate_left
  ·refine Eq.trans (run_op_eqlVec Tryz.underlying43 (by kernel_rfl) (.tmp 11) (.tmp 12) (by rfl) (by rfl) (g := fun _ => 0) (by rw [← zq4]; rfl) EZ.out) ?_; with_reducible rfl
  (try simp only [Act.put, nA, nB, nC])
  refine wpList_nil ?_
  obtain ⟨H1, hH1⟩ : ∃ H1, (h || orB (fun i => satH (A i)) 4) = H1 := ⟨_, rfl⟩
  obtain ⟨B, hB⟩ : ∃ B, satA A = B := ⟨_, rfl⟩
  rw [hH1, hB] at H2
  have E2 : Hid (uniV A = turN B 2 ∧ (h || uniH A) = (H1 || turH B 2)) := by rw [← hB, ← hH1]; exact E1
  clear hH1 hB EZ P2
  go_wp2_with fail
  go_loopw [5] (fun i wr => ∃ n : Nat, n ≤ 2 ∧ i = .int .i64 n ∧ Hid (RquR c (H1 || turH B n) (turN B n) w wr)) (fun i _ => 2 - (intOf i).toNat)
  case atStart => exact ⟨0, by omega, rfl, by rw [show (H1 || turH B 0) = H1 from by simp [turH]]; exact H2.out⟩
  case round =>
   obtain ⟨n, hn, rfl, R⟩ := hrel
   by_cases hlt : n < 2
   ·have d1 : decide ((n : Int) < 2) = true := by simp; omega
    obtain ⟨G, hG⟩ : ∃ G, turN B n = G := ⟨_, rfl⟩
    obtain ⟨H3, hH3⟩ : ∃ H3, (H1 || turH B n) = H3 := ⟨_, rfl⟩
    have hstep : turN B (n + 1) = uniT G ∧ (H1 || turH B (n + 1)) = (H3 || uniTH G) := by rw [← hG, ← hH3]; exact ⟨rfl, by simp [turH, Bool.or_assoc]⟩
    have HST := Lib.hid hstep
    rw [hG, hH3] at R
    clear hG hH3 hstep H2
    have rc := R.out.upd.cellc HC.out
    have rf := (R.out.upd.frozen hcb).trans HF.out
    have HY := Lib.hid (fun (x : World) k1 k2 k3 => rhypot_any c H3 G wr.heap.size 0 4 4 x k1 k2 (by decide) k3)
    have B0 := R.out.blk
    have RD := Lib.hid (RquR.mk (R.out.upd.drew.alloc (.cells #[.int .i64 (G 0), .int .i64 (G 1), .int .i64 (G 2), .int .i64 (G 3)] 2)) (Blk.alloc (show Blk wr.drew w.heap.size 43 4 G from R.out.blk) (.cells #[.int .i64 (G 0), .int .i64 (G 1), .int .i64 (G 2), .int .i64 (G 3)] 2)) (Blk.alloc (show Blk wr.drew (w.heap.size + 1) 43 4 (fun _ => 0) from R.out.res) (.cells #[.int .i64 (G 0), .int .i64 (G 1), .int .i64 (G 2), .int .i64 (G 3)] 2)))
    go_upto_region 7 with fail
    refine wp_region_M (fun w' => Blk w' w.heap.size 43 4 G) 13 (by kernel_rfl) ?_ (fun hHeld => ?_)
    ·exact B0
    refine tk 0 ?_
    (try simp only [Act.put, nA, nB, nC])
    refine tk 1 ?_
    (try simp only [Act.put, nA, nB, nC])
    refine tk 2 ?_
    (try simp only [Act.put, nA, nB, nC])
    refine tk 3 ?_
    (try simp only [Act.put, nA, nB, nC])
    refine tl 4 (v := ?_) ?_ ?_
    rotate_left
    ·(intro wx hSw; have q0 := Blk.cell (i := 0) hSw (by decide); go_simp; (try with_reducible rfl))
    (try simp only [Act.put, nA, nB, nC])
    refine tk 5 ?_
    (try simp only [Act.put, nA, nB, nC])
    refine tl 6 (v := ?_) ?_ ?_
    rotate_left
    ·(intro wx hSw; have q0 := Blk.cell (i := 1) hSw (by decide); go_simp; (try with_reducible rfl))
    (try simp only [Act.put, nA, nB, nC])
    refine tk 7 ?_
    (try simp only [Act.put, nA, nB, nC])
    refine tl 8 (v := ?_) ?_ ?_
    rotate_left
    ·(intro wx hSw; have q0 := Blk.cell (i := 2) hSw (by decide); go_simp; (try with_reducible rfl))
    (try simp only [Act.put, nA, nB, nC])
    refine tk 9 ?_
    (try simp only [Act.put, nA, nB, nC])
    refine tl 10 (v := ?_) ?_ ?_
    rotate_left
    ·(intro wx hSw; have q0 := Blk.cell (i := 3) hSw (by decide); go_simp; (try with_reducible rfl))
    (try simp only [Act.put, nA, nB, nC])
    refine wpAnyM_oneS 11 rfl (by kernel_rfl) (fun K hK => ?_)
    go_simp
    clear hHeld
    refine hK.out _ _ ?_ (fun hHeld => ?_)
    ·exact RD.out.blk
    clear hK K
    (try simp only [Act.put, nA, nB, nC])
    refine wpAnyM_oneS 12 rfl (by kernel_rfl) (fun K hK => ?_)
    go_simp
    (refine (HY.out _ (RD.out.upd.cellc HC.out) ((RD.out.upd.frozen hcb).trans HF.out) (rq_slc wr.drew G 2)).mono ?_); rintro e w2 ⟨rfl, hu2⟩; have R2 := Lib.hid (RD.out.upd' hcb hu2)
    (try dsimp only)
    (try simp only [Act.put, nA, nB, nC])
    clear hHeld
    refine hK.out _ _ ?_ (fun hHeld => ?_)
    ·exact R2.out.blk
    clear hK K
    (try simp only [Act.put, nA, nB, nC])
    refine wpAnyM_one 13 rfl (by kernel_rfl) (fun K hK => ?_)
    go_simp
    refine hK.out _ _ (.inl (by kernel_rfl)) (fun _ => ?_)
    clear hK K
    (try simp only [Act.put, nA, nB, nC])
    refine wpAnyM_done (by kernel_rfl) ?_ _
    (try clear hHeld)
    obtain ⟨M, hM⟩ : ∃ M, hypV G 4 = M := ⟨_, rfl⟩
    obtain ⟨H4, hH4⟩ : ∃ H4, (H3 || hypH G 4) = H4 := ⟨_, rfl⟩
    rw [hM]
    rw [hH4] at R2
    have HM := Lib.hid (And.intro hM hH4)
    clear hM hH4 hu2 HY R rc rf B0 RD
    go_wp2_with fail
    go_loopw [7] (fun i wr => ∃ k : Nat, k ≤ 4 ∧ i = .int .i64 k ∧ Hid (RquR c (H4 || orB (fun i => divH (G i) M 30) k) (turK G M k) w wr)) (fun i _ => 4 - (intOf i).toNat)
    case atStart =>
     refine ⟨0, by omega, rfl, ?_⟩
     rw [show (H4 || orB (fun i => divH (G i) M 30) 0) = H4 from by simp [orB]]
     exact ⟨R2.out.upd, R2.out.blk.congr fun i hi => by simp [turK], R2.out.res⟩
    case round =>
     obtain ⟨k, hk, rfl, R⟩ := hrel
     by_cases hlt4 : k < 4
     ·have rc := R.out.upd.cellc HC.out
      have rf := (R.out.upd.frozen hcb).trans HF.out
      have b0 := R.out.blk.cell (i := k) (by omega)
      have hv : turK G M k k = G k := by simp [turK]
      rw [hv] at b0
      have DV := Lib.hid (rd_any c _ (G k) M wr.drew (by exact rc) (by exact rf))
      have k0 : (0 : Int) ≤ (k : Int) := Int.natCast_nonneg _
      have k1 : (k : Int) < 4 := by omega
      have d4 : decide ((k : Int) < 4) = true := by simp; omega
      have RD := Lib.hid (RquR.mk (w := w) R.out.upd.drew R.out.blk R.out.res)
      clear hv rc rf
      go_upto_region 11 with fail
      refine wp_region_M (fun w' => w'.cell? ⟨w.heap.size, k, none⟩ = some (.int .i64 (G k))) 10 (by kernel_rfl) ?_ (fun hHeld => ?_)
      ·exact b0
      refine tk 0 ?_
      (try simp only [Act.put, nA, nB, nC])
      refine tk 1 ?_
      (try simp only [Act.put, nA, nB, nC])
      refine tk 2 ?_
      (try simp only [Act.put, nA, nB, nC])
      refine tk 3 ?_
      (try simp only [Act.put, nA, nB, nC])
      refine tk 4 ?_
      (try simp only [Act.put, nA, nB, nC])
      refine tl 5 (v := ?_) ?_ ?_
      rotate_left
      ·(intro wx hSw; (try dsimp only at hSw); go_simp; (first | rw [if_pos (by omega)] | rw [if_pos ⟨by omega, by omega⟩] | skip); (try with_reducible rfl))
      (try simp only [Act.put, nA, nB, nC])
      refine tk 6 ?_
      (try simp only [Act.put, nA, nB, nC])
      refine tk 7 ?_
      (try simp only [Act.put, nA, nB, nC])
      refine wpAnyM_oneS 8 rfl (by kernel_rfl) (fun K hK => ?_)
      go_simp
      (refine DV.out.mono ?_); rintro e w3 ⟨rfl, hu3⟩; have R3 := Lib.hid (RD.out.upd' hcb hu3); have b1 : w3.cell? ⟨w.heap.size, k, none⟩ = some (.int .i64 (G k)) := (by have h := R3.out.blk.cell (i := k) (by omega); simpa [turK] using h); have b2 := R3.out.blk.free k; clear hu3
      (try dsimp only)
      (try simp only [Act.put, nA, nB, nC])
      clear hHeld
      refine hK.out _ _ ?_ (fun hHeld => ?_)
      ·exact b1
      clear hK K
      (try simp only [Act.put, nA, nB, nC])
      refine tl 9 (v := ?_) ?_ ?_
      rotate_left
      ·(intro wx hSw; (try dsimp only at hSw); go_simp; (first | rw [if_pos (by omega)] | rw [if_pos ⟨by omega, by omega⟩] | skip); (try with_reducible rfl))
      (try simp only [Act.put, nA, nB, nC])
      refine wpAnyM_one 10 rfl (by kernel_rfl) (fun K hK => ?_)
      go_simp
      refine hK.out _ _ (.inl (by kernel_rfl)) (fun _ => ?_)
      clear hK K
      (try simp only [Act.put, nA, nB, nC])
      refine wpAnyM_done (by kernel_rfl) ?_ _
      (try clear hHeld)
      clear DV R RD
      go_wp2_with fail
      go_roundw
      case rel =>
       refine ⟨k + 1, by omega, by go_num, ⟨?_, ?_, ?_⟩⟩
       ·rw [show (H4 || orB (fun i => divH (G i) M 30) (k + 1)) = (H4 || orB (fun i => divH (G i) M 30) k || divH (G k) M 30) from by simp [orB, Bool.or_assoc]]
        exact R3.out.upd.setCell (Nat.le_refl _) _
       ·refine (R3.out.blk.set _ _).congr fun i hi => ?_
        simp only [Go.Proofs.YtgfklheepkgedaaGreat.upd, turK]
        by_cases h1 : i = k
        ·subst h1; simp
        ·rw [if_neg h1]; split <;> split <;> first | rfl | omega
       ·exact R3.out.res.other (by simp) _
      case measure => simp [intOf]; omega
     ·have hk4 : k = 4 := by omega
      subst hk4
      rw [show ((4 : Nat) : Int) = 4 from rfl]
      clear hlt4 hk
      go_wp2_with fail
      go_roundw
      case rel =>
       refine ⟨n + 1, by omega, by go_num, ?_⟩
       rw [HST.out.1, HST.out.2]
       have e3 : (H3 || uniTH G) = (H4 || orB (fun i => divH (G i) M 30) 4) := by rw [← HM.out.2, ← HM.out.1]; simp [uniTH, Bool.or_assoc]
       rw [e3]
       exact ⟨R.out.upd, R.out.blk.congr fun i hi => by simp only [turK, uniT, HM.out.1]; rw [if_pos hi], R.out.res⟩
      case measure => simp [intOf]; omega
   ·have hn2 : n = 2 := by omega
    subst hn2
    rw [show ((2 : Nat) : Int) = 2 from rfl]
    have B0 := R.out.blk
    have B1 := R.out.res
    have U := Lib.hid R.out.upd
    clear R hlt hn H2
    go_wp2_with (first | (refine wpList_load_row rfl 43 _ rfl (w.heap.size) rfl 43 _ (0, 0) _ (B0) Tryz.underlying43 rfl (irq.trans (by rw [arrv_size])) ?_) | (refine wpList_store_row rfl 43 _ _ rfl (w.heap.size + 1) _ rfl rfl 43 _ (B1) (irq.trans (by rw [arrv_size])) (by rw [arrv_size, arrv_size]) (oneCell_arrv _ _) ?_))
    refine bodyPost_ret (results_cell_row Tryz.results30 _ _ (w.heap.size + 1) 43 (arrv 4 (turN B 2)) (0, 0) _ rfl (setRow_heap _ _ _ _ _ _ B1) Tryz.underlying43 rfl (irq.trans (by rw [arrv_size]))) rfl ⟨by rw [E2.out.1], ?_⟩
    rw [E2.out.2]
    exact U.out.then' (below_row (Below.refl _ _) (by omega) _)
end Go.Proofs.YtgfklheepkgedaaGreat
