/- Contracts of the program's functions and plain laws, part 14: they hold for all arguments. -/
import Derived.Test.YtiajjiphknlldaaGreatQ13
import Derived.Test.YtiajjiphknlldaaGreatQ02
import Derived.Test.YtiajjiphknlldaaGreatQ03
import Derived.Test.YtiajjiphknlldaaGreatQ06
/- Contracts of the reference's scalars (9): Div, D, MulDiv. -/
namespace Go.Proofs.YtiajjiphknlldaaGreat
open Go.RowKit
set_option maxRecDepth 100000
theorem rdiv_sg (a b : Int) (hb : b ≠ 0) : rdiv a b = sv (sg2 a b) (dvM a.natAbs b.natAbs) := by
  have hd : 0 < b.natAbs := by omega
  have e := rdiv_dv false a.natAbs b.natAbs hd
  have h0 : dvM 0 b.natAbs = 0 := by unfold dvM; rw [Nat.zero_mod, Nat.zero_div, if_neg (by omega)]
  unfold rdiv
  have e2 : (((2 * a.natAbs + b.natAbs) / (2 * b.natAbs) : Nat) : Int) = (dvM a.natAbs b.natAbs : Int) := by
    have := e
    unfold rdiv sv at this
    simp only [Bool.false_eq_true, if_false, Int.natAbs_natCast] at this
    rw [if_pos (by simp; omega)] at this
    exact this
  rw [e2]
  by_cases ha0 : a = 0
  · subst ha0
    simp only [Int.natAbs_zero]
    rw [h0, sv_0]
    simp
  · unfold sv sg2
    by_cases h1 : a < 0 <;> by_cases h2 : b < 0
    · simp only [if_pos h1, if_pos h2, Bool.false_eq_true, if_false]
      rw [if_pos (by simp; omega)]
    · simp only [if_pos h1, if_neg h2, if_true]
      rw [if_neg (by simp; omega)]
    · simp only [if_neg h1, if_pos h2, if_true]
      rw [if_neg (by simp; omega)]
    · simp only [if_neg h1, if_neg h2, Bool.false_eq_true, if_false]
      rw [if_pos (by simp; omega)]
theorem sg2_pow (x y : Int) (s : Nat) : sg2 (x * 2 ^ s) y = sg2 x y := by
  have hp : (0 : Int) < 2 ^ s := Int.pow_pos (by decide)
  have : x * 2 ^ s < 0 ↔ x < 0 := by
    constructor
    · intro h; by_cases h1 : x < 0; exact h1
      have := Int.mul_nonneg (Int.not_lt.mp h1) (Int.le_of_lt hp); omega
    · intro h; exact Int.mul_neg_of_neg_of_pos h hp
  unfold sg2
  simp only [this]
set_option maxHeartbeats 1000000 in
theorem rdivs30 (c : Addr) (h : Bool) (a b x y : Int) (X Y M : Nat) (m bx b_y : Bool) (w : World) (hc : w.cell? c = some (.bool h)) (hf : w.frozen? c = false)
    (hx : satV a = x) (hy : satV b = y) (hX : x.natAbs = X) (hY : y.natAbs = Y) (hM : X * 1073741824 = M) (dx : decide (x < 0) = bx) (dy : decide (y < 0) = b_y) (hm : (!bx == b_y) = m) (y0 : (y == 0) = false) :
    Calls Tryz.prog 53 #[.pointer (some c), .int .i64 a, .int .i64 b, .int .i64 30] w fun e w' => e = .returned (.int .i64 (satV (sv m (dvM M Y)))) ∧ Upd c (h || satH a || satH b || satH (sv m (dvM M Y))) w w' := by
  have hcb := World.block_lt_of_cell? w c hc
  have bdx := satV_bd a
  have bdy := satV_bd b
  rw [hx] at bdx
  rw [hy] at bdy
  have y1 : 0 < Y := by have : y ≠ 0 := by simpa using y0
                        omega
  have e1 : (X : Int) / 17179869184 = hi64 (M : Int) := by rw [← hM]; unfold hi64; omega
  have e2 : IntKind.u64.wrap ((X : Int) * 1073741824) = lo64 (M : Int) := by rw [← hM, IntKind.wrap_u64]; unfold lo64; omega
  have SX := Lib.hid (fun w => rsize_any x w bdx.1 bdx.2)
  have SY := Lib.hid (fun w => rsize_any y w bdy.1 bdy.2)
  rw [hX] at SX
  rw [hY] at SY
  have DV := Lib.hid (fun w => rdivided_any M Y m w (by omega) y1 (by omega))
  have c1 : (w.setCell c (.bool (h || satH a))).cell? c = some (.bool (h || satH a)) := World.cell?_setCell_same _ _ _ hc
  have c2 : ((w.setCell c (.bool (h || satH a))).setCell c (.bool (h || satH a || satH b))).cell? c = some (.bool (h || satH a || satH b)) := World.cell?_setCell_same _ _ _ c1
  have C2 := Lib.hid c2
  clear c2 hX hY hM bdx bdy y1
  go_enter Tryz.func53, Tryz.ntmps53
  go_upto_region 2 with (refine (rsat_any c h a _ hc hf).mono ?_; rintro e w' ⟨rfl, rfl⟩)
  go_upto_region 3 with (refine (rsat_any c _ b _ c1 (by simp [hf])).mono ?_; rintro e w' ⟨rfl, rfl⟩)
  have HW := Lib.hid (Upd.trans (Upd.set c (h || satH a) w) (Upd.set c (h || satH a || satH b) _))
  have F2 : ((w.setCell c (.bool (h || satH a))).setCell c (.bool (h || satH a || satH b))).frozen? c = false := by simp [hf]
  have Z2 := Upd.size HW.out
  obtain ⟨w2, hw2⟩ : ∃ w2, (w.setCell c (.bool (h || satH a))).setCell c (.bool (h || satH a || satH b)) = w2 := ⟨_, rfl⟩
  rw [hw2] at HW C2 F2 Z2 ⊢
  clear hw2 c1 hc hf
  go_upto_region 17 with (refine (SX.out _).mono ?_; rintro e w' ⟨rfl, rfl⟩)
  have k1 : (w2.alloc (.cells #[.int .u64 (hi64 (M : Int)), .int .u64 (lo64 (M : Int)), .bool m] 137)).cell? c = some (.bool (h || satH a || satH b)) := by rw [World.cell?_alloc_lt _ _ _ (by omega)]; exact C2.out
  have k2 : (w2.alloc (.cells #[.int .u64 (hi64 (M : Int)), .int .u64 (lo64 (M : Int)), .bool m] 137)).frozen? c = false := by rw [frozen?_alloc_cells]; exact F2
  have D3 := Wid.new w2 (M : Int) m
  have B3 : Below w2.heap.size w2 (w2.alloc (.cells #[.int .u64 (hi64 (M : Int)), .int .u64 (lo64 (M : Int)), .bool m] 137)) := by (repeat (first | with_reducible exact Below.refl _ _ | with_reducible apply Below.drew | (with_reducible refine below_drewN ?_ _) | (with_reducible refine Below.alloc ?_ (by (try simp) <;> omega) _) | (with_reducible refine Below.setCell ?_ (by (try simp) <;> omega) _)))
  have z3 := D3.lt
  generalize w2.alloc (.cells #[.int .u64 (hi64 (M : Int)), .int .u64 (lo64 (M : Int)), .bool m] 137) = w3 at *
  have B3 := Lib.hid B3
  obtain ⟨⟨d0, d1, d2⟩, _⟩ := D3.c
  have nc : ∀ o, c ≠ ⟨w2.heap.size, o, none⟩ := fun o e => by rw [e] at hcb; simp at hcb; omega
  clear C2 F2 D3
  refine wp_region_M (fun w' => w'.cell? ⟨w2.heap.size, 0, none⟩ = some (.int .u64 (hi64 (M : Int))) ∧ w'.cell? ⟨w2.heap.size, 1, none⟩ = some (.int .u64 (lo64 (M : Int))) ∧ w'.cell? ⟨w2.heap.size, 2, none⟩ = some (.bool m)) 6 (by kernel_rfl) ?_ (fun hHeld => ?_)
  · exact ⟨d0, d1, d2⟩
  refine wpAnyM_take 0 (v := ?_) rfl (by kernel_rfl) (fun _ _ _ h => h) (Or.inl ⟨by rfl, ?_⟩) (by assumption) ?_
  rotate_left
  · (intro wx hSw; (try dsimp only at hSw); go_simp; (try with_reducible rfl))
  (try simp only [Act.put, nA, nB, nC])
  refine wpAnyM_take 1 (v := ?_) rfl (by kernel_rfl) (fun _ _ _ h => h) (Or.inl ⟨by rfl, ?_⟩) (by assumption) ?_
  rotate_left
  · (intro wx hSw; (try dsimp only at hSw); go_simp; (try with_reducible rfl))
  (try simp only [Act.put, nA, nB, nC])
  refine wpAnyM_take 2 (v := ?_) rfl (by kernel_rfl) (fun _ _ _ h => h) (Or.inl ⟨by rfl, ?_⟩) (by assumption) ?_
  rotate_left
  · (intro wx hSw; (try dsimp only at hSw); go_simp; (try with_reducible rfl))
  (try simp only [Act.put, nA, nB, nC])
  refine wpAnyM_oneS 3 rfl (by kernel_rfl) (fun K hK => ?_)
  go_simp
  (refine (SY.out _).mono ?_; rintro e w' ⟨rfl, rfl⟩)
  (try dsimp only)
  (try simp only [Act.put, nA, nB, nC])
  clear hHeld
  refine hK.out _ _ ?_ (fun hHeld => ?_)
  · exact ⟨d0, d1, d2⟩
  clear hK K
  (try simp only [Act.put, nA, nB, nC])
  refine wpAnyM_oneS 4 rfl (by kernel_rfl) (fun K hK => ?_)
  go_simp
  (refine (DV.out _).mono ?_; rintro e w4 ⟨rfl, hb4⟩)
  (try dsimp only)
  (try simp only [Act.put, nA, nB, nC])
  clear hHeld
  refine hK.out _ _ ?_ (fun hHeld => ?_)
  · exact ⟨(hb4.cell z3).trans d0, (hb4.cell z3).trans d1, (hb4.cell z3).trans d2⟩
  clear hK K
  (try simp only [Act.put, nA, nB, nC])
  refine wpAnyM_oneS 5 rfl (by kernel_rfl) (fun K hK => ?_)
  go_simp
  (refine (rend2_any c _ (dvM M Y) m _ ((hb4.cell (by (try simp); omega)).trans (by simpa using k1)) ((hb4.frozen (by (try simp); omega)).trans (by simpa using k2))).mono ?_; rintro e w5 ⟨rfl, hu5⟩)
  (try dsimp only)
  (try simp only [Act.put, nA, nB, nC])
  clear hHeld
  refine hK.out _ _ ?_ (fun hHeld => ?_)
  · have z4 : w2.heap.size < w4.heap.size := Nat.lt_of_lt_of_le z3 hb4.size; exact ⟨(hu5.cell z4 (nc 0)).trans ((hb4.cell z3).trans d0), (hu5.cell z4 (nc 1)).trans ((hb4.cell z3).trans d1), (hu5.cell z4 (nc 2)).trans ((hb4.cell z3).trans d2)⟩
  clear hK K
  (try simp only [Act.put, nA, nB, nC])
  refine wpAnyM_one 6 rfl (by kernel_rfl) (fun K hK => ?_)
  go_simp
  refine hK.out _ _ (.inl (by kernel_rfl)) (fun _ => ?_)
  clear hK K
  (try simp only [Act.put, nA, nB, nC])
  refine wpAnyM_done (by kernel_rfl) ?_ _
  go_wp2_with fail
  go_ret
  refine ⟨rfl, ?_⟩
  exact HW.out.trans (Upd.after B3.out (Upd.after (Below.drew (Below.refl _ _)) (Upd.after hb4 hu5)))
set_option maxHeartbeats 1000000 in
theorem rdivs44 (c : Addr) (h : Bool) (a b x y : Int) (X Y M : Nat) (m bx b_y : Bool) (w : World) (hc : w.cell? c = some (.bool h)) (hf : w.frozen? c = false)
    (hx : satV a = x) (hy : satV b = y) (hX : x.natAbs = X) (hY : y.natAbs = Y) (hM : X * 17592186044416 = M) (dx : decide (x < 0) = bx) (dy : decide (y < 0) = b_y) (hm : (!bx == b_y) = m) (y0 : (y == 0) = false) :
    Calls Tryz.prog 53 #[.pointer (some c), .int .i64 a, .int .i64 b, .int .i64 44] w fun e w' => e = .returned (.int .i64 (satV (sv m (dvM M Y)))) ∧ Upd c (h || satH a || satH b || satH (sv m (dvM M Y))) w w' := by
  have hcb := World.block_lt_of_cell? w c hc
  have bdx := satV_bd a
  have bdy := satV_bd b
  rw [hx] at bdx
  rw [hy] at bdy
  have y1 : 0 < Y := by have : y ≠ 0 := by simpa using y0
                        omega
  have e1 : (X : Int) / 1048576 = hi64 (M : Int) := by rw [← hM]; unfold hi64; omega
  have e2 : IntKind.u64.wrap ((X : Int) * 17592186044416) = lo64 (M : Int) := by rw [← hM, IntKind.wrap_u64]; unfold lo64; omega
  have SX := Lib.hid (fun w => rsize_any x w bdx.1 bdx.2)
  have SY := Lib.hid (fun w => rsize_any y w bdy.1 bdy.2)
  rw [hX] at SX
  rw [hY] at SY
  have DV := Lib.hid (fun w => rdivided_any M Y m w (by omega) y1 (by omega))
  have c1 : (w.setCell c (.bool (h || satH a))).cell? c = some (.bool (h || satH a)) := World.cell?_setCell_same _ _ _ hc
  have c2 : ((w.setCell c (.bool (h || satH a))).setCell c (.bool (h || satH a || satH b))).cell? c = some (.bool (h || satH a || satH b)) := World.cell?_setCell_same _ _ _ c1
  have C2 := Lib.hid c2
  clear c2 hX hY hM bdx bdy y1
  go_enter Tryz.func53, Tryz.ntmps53
  go_upto_region 2 with (refine (rsat_any c h a _ hc hf).mono ?_; rintro e w' ⟨rfl, rfl⟩)
  go_upto_region 3 with (refine (rsat_any c _ b _ c1 (by simp [hf])).mono ?_; rintro e w' ⟨rfl, rfl⟩)
  have HW := Lib.hid (Upd.trans (Upd.set c (h || satH a) w) (Upd.set c (h || satH a || satH b) _))
  have F2 : ((w.setCell c (.bool (h || satH a))).setCell c (.bool (h || satH a || satH b))).frozen? c = false := by simp [hf]
  have Z2 := Upd.size HW.out
  obtain ⟨w2, hw2⟩ : ∃ w2, (w.setCell c (.bool (h || satH a))).setCell c (.bool (h || satH a || satH b)) = w2 := ⟨_, rfl⟩
  rw [hw2] at HW C2 F2 Z2 ⊢
  clear hw2 c1 hc hf
  go_upto_region 17 with (refine (SX.out _).mono ?_; rintro e w' ⟨rfl, rfl⟩)
  have k1 : (w2.alloc (.cells #[.int .u64 (hi64 (M : Int)), .int .u64 (lo64 (M : Int)), .bool m] 137)).cell? c = some (.bool (h || satH a || satH b)) := by rw [World.cell?_alloc_lt _ _ _ (by omega)]; exact C2.out
  have k2 : (w2.alloc (.cells #[.int .u64 (hi64 (M : Int)), .int .u64 (lo64 (M : Int)), .bool m] 137)).frozen? c = false := by rw [frozen?_alloc_cells]; exact F2
  have D3 := Wid.new w2 (M : Int) m
  have B3 : Below w2.heap.size w2 (w2.alloc (.cells #[.int .u64 (hi64 (M : Int)), .int .u64 (lo64 (M : Int)), .bool m] 137)) := by (repeat (first | with_reducible exact Below.refl _ _ | with_reducible apply Below.drew | (with_reducible refine below_drewN ?_ _) | (with_reducible refine Below.alloc ?_ (by (try simp) <;> omega) _) | (with_reducible refine Below.setCell ?_ (by (try simp) <;> omega) _)))
  have z3 := D3.lt
  generalize w2.alloc (.cells #[.int .u64 (hi64 (M : Int)), .int .u64 (lo64 (M : Int)), .bool m] 137) = w3 at *
  have B3 := Lib.hid B3
  obtain ⟨⟨d0, d1, d2⟩, _⟩ := D3.c
  have nc : ∀ o, c ≠ ⟨w2.heap.size, o, none⟩ := fun o e => by rw [e] at hcb; simp at hcb; omega
  clear C2 F2 D3
  refine wp_region_M (fun w' => w'.cell? ⟨w2.heap.size, 0, none⟩ = some (.int .u64 (hi64 (M : Int))) ∧ w'.cell? ⟨w2.heap.size, 1, none⟩ = some (.int .u64 (lo64 (M : Int))) ∧ w'.cell? ⟨w2.heap.size, 2, none⟩ = some (.bool m)) 6 (by kernel_rfl) ?_ (fun hHeld => ?_)
  · exact ⟨d0, d1, d2⟩
  refine wpAnyM_take 0 (v := ?_) rfl (by kernel_rfl) (fun _ _ _ h => h) (Or.inl ⟨by rfl, ?_⟩) (by assumption) ?_
  rotate_left
  · (intro wx hSw; (try dsimp only at hSw); go_simp; (try with_reducible rfl))
  (try simp only [Act.put, nA, nB, nC])
  refine wpAnyM_take 1 (v := ?_) rfl (by kernel_rfl) (fun _ _ _ h => h) (Or.inl ⟨by rfl, ?_⟩) (by assumption) ?_
  rotate_left
  · (intro wx hSw; (try dsimp only at hSw); go_simp; (try with_reducible rfl))
  (try simp only [Act.put, nA, nB, nC])
  refine wpAnyM_take 2 (v := ?_) rfl (by kernel_rfl) (fun _ _ _ h => h) (Or.inl ⟨by rfl, ?_⟩) (by assumption) ?_
  rotate_left
  · (intro wx hSw; (try dsimp only at hSw); go_simp; (try with_reducible rfl))
  (try simp only [Act.put, nA, nB, nC])
  refine wpAnyM_oneS 3 rfl (by kernel_rfl) (fun K hK => ?_)
  go_simp
  (refine (SY.out _).mono ?_; rintro e w' ⟨rfl, rfl⟩)
  (try dsimp only)
  (try simp only [Act.put, nA, nB, nC])
  clear hHeld
  refine hK.out _ _ ?_ (fun hHeld => ?_)
  · exact ⟨d0, d1, d2⟩
  clear hK K
  (try simp only [Act.put, nA, nB, nC])
  refine wpAnyM_oneS 4 rfl (by kernel_rfl) (fun K hK => ?_)
  go_simp
  (refine (DV.out _).mono ?_; rintro e w4 ⟨rfl, hb4⟩)
  (try dsimp only)
  (try simp only [Act.put, nA, nB, nC])
  clear hHeld
  refine hK.out _ _ ?_ (fun hHeld => ?_)
  · exact ⟨(hb4.cell z3).trans d0, (hb4.cell z3).trans d1, (hb4.cell z3).trans d2⟩
  clear hK K
  (try simp only [Act.put, nA, nB, nC])
  refine wpAnyM_oneS 5 rfl (by kernel_rfl) (fun K hK => ?_)
  go_simp
  (refine (rend2_any c _ (dvM M Y) m _ ((hb4.cell (by (try simp); omega)).trans (by simpa using k1)) ((hb4.frozen (by (try simp); omega)).trans (by simpa using k2))).mono ?_; rintro e w5 ⟨rfl, hu5⟩)
  (try dsimp only)
  (try simp only [Act.put, nA, nB, nC])
  clear hHeld
  refine hK.out _ _ ?_ (fun hHeld => ?_)
  · have z4 : w2.heap.size < w4.heap.size := Nat.lt_of_lt_of_le z3 hb4.size; exact ⟨(hu5.cell z4 (nc 0)).trans ((hb4.cell z3).trans d0), (hu5.cell z4 (nc 1)).trans ((hb4.cell z3).trans d1), (hu5.cell z4 (nc 2)).trans ((hb4.cell z3).trans d2)⟩
  clear hK K
  (try simp only [Act.put, nA, nB, nC])
  refine wpAnyM_one 6 rfl (by kernel_rfl) (fun K hK => ?_)
  go_simp
  refine hK.out _ _ (.inl (by kernel_rfl)) (fun _ => ?_)
  clear hK K
  (try simp only [Act.put, nA, nB, nC])
  refine wpAnyM_done (by kernel_rfl) ?_ _
  go_wp2_with fail
  go_ret
  refine ⟨rfl, ?_⟩
  exact HW.out.trans (Upd.after B3.out (Upd.after (Below.drew (Below.refl _ _)) (Upd.after hb4 hu5)))
set_option maxHeartbeats 2000000 in
theorem rdivs0 (c : Addr) (h : Bool) (a b s : Int) (w : World) (hc : w.cell? c = some (.bool h)) (hf : w.frozen? c = false) (hy : satV b = 0) :
    Calls Tryz.prog 53 #[.pointer (some c), .int .i64 a, .int .i64 b, .int .i64 s] w fun e w' =>
      e = .returned (.int .i64 (if satV a = 0 then 0 else if satV a < 0 then -1152921504606846976 else 1152921504606846976)) ∧ Upd c true w w' := by
  obtain ⟨x, hx⟩ : ∃ x, satV a = x := ⟨_, rfl⟩
  have c1 : (w.setCell c (.bool (h || satH a))).cell? c = some (.bool (h || satH a)) := World.cell?_setCell_same _ _ _ hc
  have c2 : ((w.setCell c (.bool (h || satH a))).setCell c (.bool (h || satH a || satH b))).cell? c = some (.bool (h || satH a || satH b)) := World.cell?_setCell_same _ _ _ c1
  have F2 : ((w.setCell c (.bool (h || satH a))).setCell c (.bool (h || satH a || satH b))).frozen? c = false := by simp [hf]
  have HV := Lib.hid (show ∀ v, (if x = 0 then 0 else if x < 0 then -1152921504606846976 else 1152921504606846976) = v → (if satV a = 0 then 0 else if satV a < 0 then -1152921504606846976 else 1152921504606846976) = v from fun v hv => by rw [hx]; exact hv)
  have C2 := Lib.hid c2
  have HF2 := Lib.hid F2
  clear c2 F2
  have HX := Lib.hid (show (0 < x ∨ x = 0 ∨ x < 0) by omega)
  rcases HX.out with g | g | g
  · have g1 : decide (0 < x) = true := by simpa using g
    rw [HV.out 1152921504606846976 (by rw [if_neg (by omega), if_neg (by omega)])]
    clear HX HV g
    go_enter Tryz.func53, Tryz.ntmps53
    go_upto_region 2 with (refine (rsat_any c h a _ hc hf).mono ?_; rintro e w' ⟨rfl, rfl⟩)
    go_upto_region 3 with (refine (rsat_any c _ b _ c1 (by simp [hf])).mono ?_; rintro e w' ⟨rfl, rfl⟩)
    have HW := Lib.hid (Upd.trans (Upd.trans (Upd.set c (h || satH a) w) (Upd.set c (h || satH a || satH b) _)) (Upd.set c true _))
    have c2 := C2.out
    have f2 := HF2.out
    clear C2 HF2 c1
    generalize (w.setCell c (.bool (h || satH a))).setCell c (.bool (h || satH a || satH b)) = w2 at *
    go_wp2_with fail
    go_ret
    exact ⟨rfl, HW.out⟩
  · subst g
    have g1 : decide ((0 : Int) < 0) = false := by decide
    rw [HV.out 0 (by rw [if_pos rfl])]
    clear HX HV
    go_enter Tryz.func53, Tryz.ntmps53
    go_upto_region 2 with (refine (rsat_any c h a _ hc hf).mono ?_; rintro e w' ⟨rfl, rfl⟩)
    go_upto_region 3 with (refine (rsat_any c _ b _ c1 (by simp [hf])).mono ?_; rintro e w' ⟨rfl, rfl⟩)
    have HW := Lib.hid (Upd.trans (Upd.trans (Upd.set c (h || satH a) w) (Upd.set c (h || satH a || satH b) _)) (Upd.set c true _))
    have c2 := C2.out
    have f2 := HF2.out
    clear C2 HF2 c1
    generalize (w.setCell c (.bool (h || satH a))).setCell c (.bool (h || satH a || satH b)) = w2 at *
    go_wp2_with fail
    go_ret
    exact ⟨rfl, HW.out⟩
  · have g1 : decide (0 < x) = false := by simp; omega
    have g2 : decide (x < 0) = true := by simpa using g
    rw [HV.out (-1152921504606846976) (by rw [if_neg (by omega), if_pos g])]
    clear HX HV g
    go_enter Tryz.func53, Tryz.ntmps53
    go_upto_region 2 with (refine (rsat_any c h a _ hc hf).mono ?_; rintro e w' ⟨rfl, rfl⟩)
    go_upto_region 3 with (refine (rsat_any c _ b _ c1 (by simp [hf])).mono ?_; rintro e w' ⟨rfl, rfl⟩)
    have HW := Lib.hid (Upd.trans (Upd.trans (Upd.set c (h || satH a) w) (Upd.set c (h || satH a || satH b) _)) (Upd.set c true _))
    have c2 := C2.out
    have f2 := HF2.out
    clear C2 HF2 c1
    generalize (w.setCell c (.bool (h || satH a))).setCell c (.bool (h || satH a || satH b)) = w2 at *
    go_wp2_with fail
    go_ret
    exact ⟨rfl, HW.out⟩
theorem dv_fact (s : Nat) (x y : Int) (X M P : Nat) (hX : x.natAbs = X) (hp : 2 ^ s = P) (hM : X * P = M) (hy : y ≠ 0) : rdiv (x * 2 ^ s) y = sv (sg2 x y) (dvM M y.natAbs) := by
  rw [rdiv_sg _ _ hy, sg2_pow]
  congr 2
  rw [Int.natAbs_mul, hX, ← hM, ← hp]
  congr 1
theorem sg2_ne (x y : Int) : (!decide (x < 0) == decide (y < 0)) = sg2 x y := by
  unfold sg2
  by_cases h1 : x < 0 <;> by_cases h2 : y < 0 <;> simp [h1, h2]
theorem rdiv30_any (c : Addr) (h : Bool) (a b : Int) (w : World) (hc : w.cell? c = some (.bool h)) (hf : w.frozen? c = false) :
    Calls Tryz.prog 53 #[.pointer (some c), .int .i64 a, .int .i64 b, .int .i64 30] w fun e w' => e = .returned (.int .i64 (divV a b 30)) ∧ Upd c (h || divH a b 30) w w' := by
  by_cases hy : satV b = 0
  · have e2 : (h || divH a b 30) = true := by simp [divH, byH, hy]
    have hp : (0 : Int) < 2 ^ 30 := by decide
    have e1 : divV a b 30 = (if satV a = 0 then 0 else if satV a < 0 then -1152921504606846976 else 1152921504606846976) := by
      unfold divV byV
      rw [if_neg (by decide), if_pos hy]
      rw [show ((30 : Int).toNat) = 30 from rfl]
      generalize satV a = x
      have k : (2 : Int) ^ 30 = 1073741824 := by decide
      rw [k]
      by_cases h0 : x = 0
      · rw [if_pos (by omega), if_pos h0]
      · rw [if_neg (by omega), if_neg h0]
        by_cases h1 : x < 0
        · rw [if_pos (by omega), if_pos h1]
        · rw [if_neg (by omega), if_neg h1]
    rw [e1, e2]
    exact rdivs0 c h a b 30 w hc hf hy
  · have k := dv_fact 30 (satV a) (satV b) _ _ 1073741824 rfl (by decide) rfl hy
    have e1 : divV a b 30 = satV (sv (sg2 (satV a) (satV b)) (dvM ((satV a).natAbs * 1073741824) (satV b).natAbs)) := by
      rw [← k]; unfold divV byV
      rw [if_neg (by decide), if_neg hy]; rfl
    have e2 : (h || divH a b 30) = (h || satH a || satH b || satH (sv (sg2 (satV a) (satV b)) (dvM ((satV a).natAbs * 1073741824) (satV b).natAbs))) := by
      rw [← k]; unfold divH byH
      rw [show decide ((30 : Int) < 0 ∨ 66 < (30 : Int)) = false by decide, show decide (satV b = 0) = false by simpa using hy]
      simp only [Bool.false_or, Bool.or_assoc]; rfl
    rw [e1, e2]
    exact rdivs30 c h a b _ _ _ _ _ _ _ _ w hc hf rfl rfl rfl rfl rfl rfl rfl (sg2_ne _ _) (by simpa using hy)
theorem rdiv44_any (c : Addr) (h : Bool) (a b : Int) (w : World) (hc : w.cell? c = some (.bool h)) (hf : w.frozen? c = false) :
    Calls Tryz.prog 53 #[.pointer (some c), .int .i64 a, .int .i64 b, .int .i64 44] w fun e w' => e = .returned (.int .i64 (divV a b 44)) ∧ Upd c (h || divH a b 44) w w' := by
  by_cases hy : satV b = 0
  · have e2 : (h || divH a b 44) = true := by simp [divH, byH, hy]
    have hp : (0 : Int) < 2 ^ 44 := by decide
    have e1 : divV a b 44 = (if satV a = 0 then 0 else if satV a < 0 then -1152921504606846976 else 1152921504606846976) := by
      unfold divV byV
      rw [if_neg (by decide), if_pos hy]
      rw [show ((44 : Int).toNat) = 44 from rfl]
      generalize satV a = x
      have k : (2 : Int) ^ 44 = 17592186044416 := by decide
      rw [k]
      by_cases h0 : x = 0
      · rw [if_pos (by omega), if_pos h0]
      · rw [if_neg (by omega), if_neg h0]
        by_cases h1 : x < 0
        · rw [if_pos (by omega), if_pos h1]
        · rw [if_neg (by omega), if_neg h1]
    rw [e1, e2]
    exact rdivs0 c h a b 44 w hc hf hy
  · have k := dv_fact 44 (satV a) (satV b) _ _ 17592186044416 rfl (by decide) rfl hy
    have e1 : divV a b 44 = satV (sv (sg2 (satV a) (satV b)) (dvM ((satV a).natAbs * 17592186044416) (satV b).natAbs)) := by
      rw [← k]; unfold divV byV
      rw [if_neg (by decide), if_neg hy]; rfl
    have e2 : (h || divH a b 44) = (h || satH a || satH b || satH (sv (sg2 (satV a) (satV b)) (dvM ((satV a).natAbs * 17592186044416) (satV b).natAbs))) := by
      rw [← k]; unfold divH byH
      rw [show decide ((44 : Int) < 0 ∨ 66 < (44 : Int)) = false by decide, show decide (satV b = 0) = false by simpa using hy]
      simp only [Bool.false_or, Bool.or_assoc]; rfl
    rw [e1, e2]
    exact rdivs44 c h a b _ _ _ _ _ _ _ _ w hc hf rfl rfl rfl rfl rfl rfl rfl (sg2_ne _ _) (by simpa using hy)
theorem rd_any (c : Addr) (h : Bool) (a b : Int) (w : World) (hc : w.cell? c = some (.bool h)) (hf : w.frozen? c = false) :
    Calls Tryz.prog 58 #[.pointer (some c), .int .i64 a, .int .i64 b] w fun e w' => e = .returned (.int .i64 (divV a b 30)) ∧ Upd c (h || divH a b 30) w w' := by
  go_enter Tryz.func58, Tryz.ntmps58
  go_wp2_with fail
  refine (rdiv30_any c h a b _ hc hf).mono ?_; rintro e w1 ⟨rfl, hu⟩
  go_wp2_with fail
  go_ret
  exact ⟨rfl, hu⟩
end Go.Proofs.YtiajjiphknlldaaGreat
/- Contracts of the reference's scalars (10): MulDiv. -/
namespace Go.Proofs.YtiajjiphknlldaaGreat
open Go.RowKit
set_option maxRecDepth 100000
theorem Wid.set2 {w : World} {b : Nat} {M : Int} {m : Bool} (h : Wid w b M m) (n : Bool) : Wid (w.setCell ⟨b, 2, none⟩ (.bool n)) b M n :=
  heap_setCell_same w b 2 _ _ (.bool n) h
set_option maxHeartbeats 2000000 in
theorem rmdS (c : Addr) (h : Bool) (a b d x y z : Int) (P Z : Nat) (m bz n : Bool) (w : World) (hc : w.cell? c = some (.bool h)) (hf : w.frozen? c = false)
    (hx : satV a = x) (hy : satV b = y) (hz : satV d = z) (hZ : z.natAbs = Z) (hP : P ≤ 1329227995784915872903807060280344576) (dz : decide (z < 0) = bz) (hn : (!m == bz) = n) (z0 : (z == 0) = false)
    (hm : ∀ w, Calls Tryz.prog 80 #[.int .i64 x, .int .i64 y] w fun e w' => e = .returned (.agg #[.int .u64 (hi64 (P : Int)), .int .u64 (lo64 (P : Int)), .bool m]) ∧ Below w.heap.size w w') :
    Calls Tryz.prog 52 #[.pointer (some c), .int .i64 a, .int .i64 b, .int .i64 d] w fun e w' => e = .returned (.int .i64 (satV (sv n (dvM P Z)))) ∧ Upd c (h || satH a || satH b || satH d || satH (sv n (dvM P Z))) w w' := by
  have hcb := World.block_lt_of_cell? w c hc
  have bdz := satV_bd d
  rw [hz] at bdz
  have y1 : 0 < Z := by have : z ≠ 0 := by simpa using z0
                        omega
  have HM := Lib.hid hm
  have SZ := Lib.hid (fun w => rsize_any z w bdz.1 bdz.2)
  rw [hZ] at SZ
  have DV := Lib.hid (fun w => rdivided_any P Z n w (by omega) y1 (by omega))
  have c1 : (w.setCell c (.bool (h || satH a))).cell? c = some (.bool (h || satH a)) := World.cell?_setCell_same _ _ _ hc
  have c2 : ((w.setCell c (.bool (h || satH a))).setCell c (.bool (h || satH a || satH b))).cell? c = some (.bool (h || satH a || satH b)) := World.cell?_setCell_same _ _ _ c1
  have C2 := Lib.hid c2
  clear c2 hZ hP bdz y1 hm
  go_enter Tryz.func52, Tryz.ntmps52
  go_wp2_with fail
  refine (rsat_any c h a _ hc hf).mono ?_; rintro e w' ⟨rfl, rfl⟩
  go_wp2_with fail
  refine (rsat_any c _ b _ c1 (by simp [hf])).mono ?_; rintro e w' ⟨rfl, rfl⟩
  have HW := Lib.hid (Upd.trans (Upd.set c (h || satH a) w) (Upd.set c (h || satH a || satH b) _))
  have F2 : ((w.setCell c (.bool (h || satH a))).setCell c (.bool (h || satH a || satH b))).frozen? c = false := by simp [hf]
  have Z2 := Upd.size HW.out
  obtain ⟨w2, hw2⟩ : ∃ w2, (w.setCell c (.bool (h || satH a))).setCell c (.bool (h || satH a || satH b)) = w2 := ⟨_, rfl⟩
  rw [hw2] at HW C2 F2 Z2 ⊢
  clear hw2 c1 hc hf
  go_wp2_with fail
  refine (HM.out _).mono ?_; rintro e w3 ⟨rfl, hb3⟩
  have k1 : w3.cell? c = some (.bool (h || satH a || satH b)) := (hb3.cell (by omega)).trans C2.out
  have k2 : w3.frozen? c = false := (hb3.frozen (by omega)).trans F2
  have hs3 := hb3.size
  have HB3 := Lib.hid hb3
  clear hb3 C2 F2
  have k3 : ∀ o, (w3.alloc o).cell? c = some (.bool (h || satH a || satH b)) := fun o => by rw [World.cell?_alloc_lt _ _ _ (by omega)]; exact k1
  have k4 : ∀ cs t, (w3.alloc (.cells cs t)).frozen? c = false := fun cs t => by rw [frozen?_alloc_cells]; exact k2
  have D3 := Lib.hid (Wid.new w3 (P : Int) m)
  have B3 : Hid (Below w3.heap.size w3 (w3.alloc (.cells #[.int .u64 (hi64 (P : Int)), .int .u64 (lo64 (P : Int)), .bool m] 137))) := Lib.hid (by (repeat (first | with_reducible exact Below.refl _ _ | with_reducible apply Below.drew | (with_reducible refine below_drewN ?_ _) | (with_reducible refine Below.alloc ?_ (by (try simp) <;> omega) _) | (with_reducible refine Below.setCell ?_ (by (try simp) <;> omega) _))))
  go_upto_region 2 with fail
  have k5 := k3 (.cells #[.int .u64 (hi64 (P : Int)), .int .u64 (lo64 (P : Int)), .bool m] 137)
  have k6 := k4 #[.int .u64 (hi64 (P : Int)), .int .u64 (lo64 (P : Int)), .bool m] 137
  clear k1 k2 k3 k4
  obtain ⟨pb, hpb⟩ : ∃ pb, w3.heap.size = pb := ⟨_, rfl⟩
  generalize w3.alloc (.cells #[.int .u64 (hi64 (P : Int)), .int .u64 (lo64 (P : Int)), .bool m] 137) = w4 at *
  rw [hpb] at D3 ⊢
  have hcp : c.block < pb := by omega
  have hnc : pb ≠ c.block := by omega
  go_upto_region 3 with (refine (rsat_any c _ d _ k5 k6).mono ?_; rintro e w' ⟨rfl, rfl⟩)
  have c5 : (w4.setCell c (.bool (h || satH a || satH b || satH d))).cell? c = some (.bool (h || satH a || satH b || satH d)) := World.cell?_setCell_same _ _ _ k5
  have f5 : (w4.setCell c (.bool (h || satH a || satH b || satH d))).frozen? c = false := by simp [k6]
  have D5 := Lib.hid (D3.out.other (a := c) hnc (.bool (h || satH a || satH b || satH d)))
  have U5 := Lib.hid (Upd.set c (h || satH a || satH b || satH d) w4)
  have hs5 : w4.heap.size = (w4.setCell c (.bool (h || satH a || satH b || satH d))).heap.size := (setCell_size _ _ _).symm
  generalize w4.setCell c (.bool (h || satH a || satH b || satH d)) = w5 at *
  clear k5 k6 D3
  obtain ⟨⟨d0, d1, d2⟩, v0, v1, v2⟩ := D5.out.c
  go_upto_region 11 with fail
  have D6 := D5.out.set2 n
  have hwp : w.heap.size ≤ pb := by omega
  have B6 := Lib.hid (show Below w.heap.size w5 (w5.setCell ⟨pb, 2, none⟩ (.bool n)) from (Below.refl _ _).setCell hwp _)
  have k1 : (w5.setCell ⟨pb, 2, none⟩ (.bool n)).cell? c = some (.bool (h || satH a || satH b || satH d)) := (World.cell?_setCell_other _ _ _ _ (fun e => by rw [← e] at hcp; simp at hcp)).trans c5
  have k2 : (w5.setCell ⟨pb, 2, none⟩ (.bool n)).frozen? c = false := by simp [f5]
  have hs6 : w5.heap.size = (w5.setCell ⟨pb, 2, none⟩ (.bool n)).heap.size := (setCell_size _ _ _).symm
  clear D5 d0 d1 d2 v0 v1 v2 c5 f5
  generalize w5.setCell ⟨pb, 2, none⟩ (.bool n) = w6 at *
  have z6 := D6.lt
  obtain ⟨⟨d0, d1, d2⟩, _⟩ := D6.c
  have nc : ∀ o, c ≠ ⟨pb, o, none⟩ := fun o e => by rw [e] at hcp; simp at hcp
  refine wp_region_M (fun w' => w'.cell? ⟨pb, 0, none⟩ = some (.int .u64 (hi64 (P : Int))) ∧ w'.cell? ⟨pb, 1, none⟩ = some (.int .u64 (lo64 (P : Int))) ∧ w'.cell? ⟨pb, 2, none⟩ = some (.bool n)) 6 (by kernel_rfl) ?_ (fun hHeld => ?_)
  · exact ⟨d0, d1, d2⟩
  refine wpAnyM_take 0 (v := ?_) rfl (by kernel_rfl) (fun _ _ _ h => h) (Or.inl ⟨by rfl, ?_⟩) (by assumption) ?_
  rotate_left
  · (intro wx hSw; (try dsimp only at hSw); go_simp; (try with_reducible rfl))
  (try simp only [Act.put, nA, nB, nC])
  refine wpAnyM_take 1 (v := ?_) rfl (by kernel_rfl) (fun _ _ _ h => h) (Or.inl ⟨by rfl, ?_⟩) (by assumption) ?_
  rotate_left
  · (intro wx hSw; (try dsimp only at hSw); go_simp; (try with_reducible rfl))
  (try simp only [Act.put, nA, nB, nC])
  refine wpAnyM_take 2 (v := ?_) rfl (by kernel_rfl) (fun _ _ _ h => h) (Or.inl ⟨by rfl, ?_⟩) (by assumption) ?_
  rotate_left
  · (intro wx hSw; (try dsimp only at hSw); go_simp; (try with_reducible rfl))
  (try simp only [Act.put, nA, nB, nC])
  refine wpAnyM_oneS 3 rfl (by kernel_rfl) (fun K hK => ?_)
  go_simp
  (refine (SZ.out _).mono ?_; rintro e w' ⟨rfl, rfl⟩)
  (try dsimp only)
  (try simp only [Act.put, nA, nB, nC])
  clear hHeld
  refine hK.out _ _ ?_ (fun hHeld => ?_)
  · exact ⟨d0, d1, d2⟩
  clear hK K
  (try simp only [Act.put, nA, nB, nC])
  refine wpAnyM_oneS 4 rfl (by kernel_rfl) (fun K hK => ?_)
  go_simp
  (refine (DV.out _).mono ?_; rintro e w7 ⟨rfl, hb7⟩)
  (try dsimp only)
  (try simp only [Act.put, nA, nB, nC])
  clear hHeld
  refine hK.out _ _ ?_ (fun hHeld => ?_)
  · exact ⟨(hb7.cell z6).trans d0, (hb7.cell z6).trans d1, (hb7.cell z6).trans d2⟩
  clear hK K
  (try simp only [Act.put, nA, nB, nC])
  refine wpAnyM_oneS 5 rfl (by kernel_rfl) (fun K hK => ?_)
  go_simp
  (refine (rend2_any c _ (dvM P Z) n _ ((hb7.cell (by (try simp); omega)).trans (by simpa using k1)) ((hb7.frozen (by (try simp); omega)).trans (by simpa using k2))).mono ?_; rintro e w8 ⟨rfl, hu8⟩)
  (try dsimp only)
  (try simp only [Act.put, nA, nB, nC])
  clear hHeld
  refine hK.out _ _ ?_ (fun hHeld => ?_)
  · have z7 : pb < w7.heap.size := Nat.lt_of_lt_of_le z6 hb7.size; exact ⟨(hu8.cell z7 (nc 0)).trans ((hb7.cell z6).trans d0), (hu8.cell z7 (nc 1)).trans ((hb7.cell z6).trans d1), (hu8.cell z7 (nc 2)).trans ((hb7.cell z6).trans d2)⟩
  clear hK K
  (try simp only [Act.put, nA, nB, nC])
  refine wpAnyM_one 6 rfl (by kernel_rfl) (fun K hK => ?_)
  go_simp
  refine hK.out _ _ (.inl (by kernel_rfl)) (fun _ => ?_)
  clear hK K
  (try simp only [Act.put, nA, nB, nC])
  refine wpAnyM_done (by kernel_rfl) ?_ _
  go_wp2_with fail
  go_ret
  refine ⟨rfl, ?_⟩
  exact ((HW.out.trans (Upd.after HB3.out (Upd.after B3.out U5.out))).then' B6.out).trans (Upd.after (Below.drew (Below.refl _ _)) (Upd.after hb7 hu8))
set_option maxHeartbeats 4000000 in
theorem rmd0 (c : Addr) (h : Bool) (a b d x y v : Int) (P : Nat) (m : Bool) (w : World) (hc : w.cell? c = some (.bool h)) (hf : w.frozen? c = false)
    (hx : satV a = x) (hy : satV b = y) (hz : satV d = 0) (hv : (if P = 0 then 0 else if m = true then -1152921504606846976 else 1152921504606846976) = v)
    (hm : ∀ w, Calls Tryz.prog 80 #[.int .i64 x, .int .i64 y] w fun e w' => e = .returned (.agg #[.int .u64 (hi64 (P : Int)), .int .u64 (lo64 (P : Int)), .bool m]) ∧ Below w.heap.size w w') :
    Calls Tryz.prog 52 #[.pointer (some c), .int .i64 a, .int .i64 b, .int .i64 d] w fun e w' => e = .returned (.int .i64 v) ∧ Upd c true w w' := by
  have hcb := World.block_lt_of_cell? w c hc
  have HM := Lib.hid hm
  have c1 : (w.setCell c (.bool (h || satH a))).cell? c = some (.bool (h || satH a)) := World.cell?_setCell_same _ _ _ hc
  have c2 : ((w.setCell c (.bool (h || satH a))).setCell c (.bool (h || satH a || satH b))).cell? c = some (.bool (h || satH a || satH b)) := World.cell?_setCell_same _ _ _ c1
  have C2 := Lib.hid c2
  clear c2 hm
  have hcase : (P = 0 ∧ (hi64 (P : Int) == 0) = true ∧ (lo64 (P : Int) == 0) = true) ∨ (P ≠ 0 ∧ (hi64 (P : Int) == 0) = false) ∨ (P ≠ 0 ∧ (hi64 (P : Int) == 0) = true ∧ (lo64 (P : Int) == 0) = false) := by
    simp only [beq_iff_eq, beq_eq_false_iff_ne, ne_eq]
    unfold hi64 lo64
    omega
  have HV := Lib.hid hv
  clear hv
  cases m
  · rcases hcase with ⟨g0, g1, g2⟩ | ⟨g0, g1⟩ | ⟨g0, g1, g2⟩
    all_goals
      have HG := Lib.hid g0
      clear g0
      go_enter Tryz.func52, Tryz.ntmps52
      go_wp2_with fail
      refine (rsat_any c h a _ hc hf).mono ?_; rintro e w' ⟨rfl, rfl⟩
      go_wp2_with fail
      refine (rsat_any c _ b _ c1 (by simp [hf])).mono ?_; rintro e w' ⟨rfl, rfl⟩
      have HW := Lib.hid (Upd.trans (Upd.set c (h || satH a) w) (Upd.set c (h || satH a || satH b) _))
      have F2 : ((w.setCell c (.bool (h || satH a))).setCell c (.bool (h || satH a || satH b))).frozen? c = false := by simp [hf]
      have Z2 := Upd.size HW.out
      obtain ⟨w2, hw2⟩ : ∃ w2, (w.setCell c (.bool (h || satH a))).setCell c (.bool (h || satH a || satH b)) = w2 := ⟨_, rfl⟩
      rw [hw2] at HW C2 F2 Z2 ⊢
      clear hw2 c1 hc hf
      go_wp2_with fail
      refine (HM.out _).mono ?_; rintro e w3 ⟨rfl, hb3⟩
      have k1 : w3.cell? c = some (.bool (h || satH a || satH b)) := (hb3.cell (by omega)).trans C2.out
      have k2 : w3.frozen? c = false := (hb3.frozen (by omega)).trans F2
      have hs3 := hb3.size
      have HB3 := Lib.hid hb3
      clear hb3 C2 F2
      have k3 : ∀ o, (w3.alloc o).cell? c = some (.bool (h || satH a || satH b)) := fun o => by rw [World.cell?_alloc_lt _ _ _ (by omega)]; exact k1
      have k4 : ∀ cs t, (w3.alloc (.cells cs t)).frozen? c = false := fun cs t => by rw [frozen?_alloc_cells]; exact k2
      have D3 := Lib.hid (Wid.new w3 (P : Int) false)
      have B3 : Hid (Below w3.heap.size w3 (w3.alloc (.cells #[.int .u64 (hi64 (P : Int)), .int .u64 (lo64 (P : Int)), .bool false] 137))) := Lib.hid (by (repeat (first | with_reducible exact Below.refl _ _ | with_reducible apply Below.drew | (with_reducible refine below_drewN ?_ _) | (with_reducible refine Below.alloc ?_ (by (try simp) <;> omega) _) | (with_reducible refine Below.setCell ?_ (by (try simp) <;> omega) _))))
      go_upto_region 2 with fail
      have k5 := k3 (.cells #[.int .u64 (hi64 (P : Int)), .int .u64 (lo64 (P : Int)), .bool false] 137)
      have k6 := k4 #[.int .u64 (hi64 (P : Int)), .int .u64 (lo64 (P : Int)), .bool false] 137
      clear k1 k2 k3 k4
      obtain ⟨pb, hpb⟩ : ∃ pb, w3.heap.size = pb := ⟨_, rfl⟩
      generalize w3.alloc (.cells #[.int .u64 (hi64 (P : Int)), .int .u64 (lo64 (P : Int)), .bool false] 137) = w4 at *
      rw [hpb] at D3 ⊢
      have hcp : c.block < pb := by omega
      have hnc : pb ≠ c.block := by omega
      go_upto_region 3 with (refine (rsat_any c _ d _ k5 k6).mono ?_; rintro e w' ⟨rfl, rfl⟩)
      have c5 : (w4.setCell c (.bool (h || satH a || satH b || satH d))).cell? c = some (.bool (h || satH a || satH b || satH d)) := World.cell?_setCell_same _ _ _ k5
      have f5 : (w4.setCell c (.bool (h || satH a || satH b || satH d))).frozen? c = false := by simp [k6]
      have c6 := Lib.hid (Upd.set c true (w4.setCell c (.bool (h || satH a || satH b || satH d))))
      have D5 := Lib.hid (D3.out.other (a := c) hnc (.bool (h || satH a || satH b || satH d)))
      have U5 := Lib.hid (Upd.set c (h || satH a || satH b || satH d) w4)
      have hs5 : w4.heap.size = (w4.setCell c (.bool (h || satH a || satH b || satH d))).heap.size := (setCell_size _ _ _).symm
      generalize w4.setCell c (.bool (h || satH a || satH b || satH d)) = w5 at *
      clear k5 k6 D3
      obtain ⟨⟨d0, d1, d2⟩, v0, v1, v2⟩ := D5.out.c
      have D7 := D5.out.other (a := c) hnc (.bool true)
      go_upto_region 5 with fail
      have c7 := c6.out
      clear D5 d0 d1 d2 v0 v1 v2 c6
      generalize w5.setCell c (.bool true) = w6 at *
      have C7 := Lib.hid c7
      obtain ⟨⟨d0, d1, d2⟩, v0, v1, v2⟩ := D7.c
      clear c7
      go_wp2_with fail
      go_ret
      refine ⟨retI ?_, ?_⟩
      · have := HV.out
        first | (rw [if_pos HG.out] at this; exact this) | (rw [if_neg HG.out] at this; simpa using this)
      · exact (HW.out.trans (Upd.after HB3.out (Upd.after B3.out U5.out))).trans C7.out
  · rcases hcase with ⟨g0, g1, g2⟩ | ⟨g0, g1⟩ | ⟨g0, g1, g2⟩
    all_goals
      have HG := Lib.hid g0
      clear g0
      go_enter Tryz.func52, Tryz.ntmps52
      go_wp2_with fail
      refine (rsat_any c h a _ hc hf).mono ?_; rintro e w' ⟨rfl, rfl⟩
      go_wp2_with fail
      refine (rsat_any c _ b _ c1 (by simp [hf])).mono ?_; rintro e w' ⟨rfl, rfl⟩
      have HW := Lib.hid (Upd.trans (Upd.set c (h || satH a) w) (Upd.set c (h || satH a || satH b) _))
      have F2 : ((w.setCell c (.bool (h || satH a))).setCell c (.bool (h || satH a || satH b))).frozen? c = false := by simp [hf]
      have Z2 := Upd.size HW.out
      obtain ⟨w2, hw2⟩ : ∃ w2, (w.setCell c (.bool (h || satH a))).setCell c (.bool (h || satH a || satH b)) = w2 := ⟨_, rfl⟩
      rw [hw2] at HW C2 F2 Z2 ⊢
      clear hw2 c1 hc hf
      go_wp2_with fail
      refine (HM.out _).mono ?_; rintro e w3 ⟨rfl, hb3⟩
      have k1 : w3.cell? c = some (.bool (h || satH a || satH b)) := (hb3.cell (by omega)).trans C2.out
      have k2 : w3.frozen? c = false := (hb3.frozen (by omega)).trans F2
      have hs3 := hb3.size
      have HB3 := Lib.hid hb3
      clear hb3 C2 F2
      have k3 : ∀ o, (w3.alloc o).cell? c = some (.bool (h || satH a || satH b)) := fun o => by rw [World.cell?_alloc_lt _ _ _ (by omega)]; exact k1
      have k4 : ∀ cs t, (w3.alloc (.cells cs t)).frozen? c = false := fun cs t => by rw [frozen?_alloc_cells]; exact k2
      have D3 := Lib.hid (Wid.new w3 (P : Int) true)
      have B3 : Hid (Below w3.heap.size w3 (w3.alloc (.cells #[.int .u64 (hi64 (P : Int)), .int .u64 (lo64 (P : Int)), .bool true] 137))) := Lib.hid (by (repeat (first | with_reducible exact Below.refl _ _ | with_reducible apply Below.drew | (with_reducible refine below_drewN ?_ _) | (with_reducible refine Below.alloc ?_ (by (try simp) <;> omega) _) | (with_reducible refine Below.setCell ?_ (by (try simp) <;> omega) _))))
      go_upto_region 2 with fail
      have k5 := k3 (.cells #[.int .u64 (hi64 (P : Int)), .int .u64 (lo64 (P : Int)), .bool true] 137)
      have k6 := k4 #[.int .u64 (hi64 (P : Int)), .int .u64 (lo64 (P : Int)), .bool true] 137
      clear k1 k2 k3 k4
      obtain ⟨pb, hpb⟩ : ∃ pb, w3.heap.size = pb := ⟨_, rfl⟩
      generalize w3.alloc (.cells #[.int .u64 (hi64 (P : Int)), .int .u64 (lo64 (P : Int)), .bool true] 137) = w4 at *
      rw [hpb] at D3 ⊢
      have hcp : c.block < pb := by omega
      have hnc : pb ≠ c.block := by omega
      go_upto_region 3 with (refine (rsat_any c _ d _ k5 k6).mono ?_; rintro e w' ⟨rfl, rfl⟩)
      have c5 : (w4.setCell c (.bool (h || satH a || satH b || satH d))).cell? c = some (.bool (h || satH a || satH b || satH d)) := World.cell?_setCell_same _ _ _ k5
      have f5 : (w4.setCell c (.bool (h || satH a || satH b || satH d))).frozen? c = false := by simp [k6]
      have c6 := Lib.hid (Upd.set c true (w4.setCell c (.bool (h || satH a || satH b || satH d))))
      have D5 := Lib.hid (D3.out.other (a := c) hnc (.bool (h || satH a || satH b || satH d)))
      have U5 := Lib.hid (Upd.set c (h || satH a || satH b || satH d) w4)
      have hs5 : w4.heap.size = (w4.setCell c (.bool (h || satH a || satH b || satH d))).heap.size := (setCell_size _ _ _).symm
      generalize w4.setCell c (.bool (h || satH a || satH b || satH d)) = w5 at *
      clear k5 k6 D3
      obtain ⟨⟨d0, d1, d2⟩, v0, v1, v2⟩ := D5.out.c
      have D7 := D5.out.other (a := c) hnc (.bool true)
      go_upto_region 5 with fail
      have c7 := c6.out
      clear D5 d0 d1 d2 v0 v1 v2 c6
      generalize w5.setCell c (.bool true) = w6 at *
      have C7 := Lib.hid c7
      obtain ⟨⟨d0, d1, d2⟩, v0, v1, v2⟩ := D7.c
      clear c7
      go_wp2_with fail
      go_ret
      refine ⟨retI ?_, ?_⟩
      · have := HV.out
        first | (rw [if_pos HG.out] at this; exact this) | (rw [if_neg HG.out] at this; simpa using this)
      · exact (HW.out.trans (Upd.after HB3.out (Upd.after B3.out U5.out))).trans C7.out
theorem rmd_any (c : Addr) (h : Bool) (a b d : Int) (w : World) (hc : w.cell? c = some (.bool h)) (hf : w.frozen? c = false) :
    Calls Tryz.prog 52 #[.pointer (some c), .int .i64 a, .int .i64 b, .int .i64 d] w fun e w' => e = .returned (.int .i64 (mdivV a b d)) ∧ Upd c (h || mdivH a b d) w w' := by
  have hp := abs_prod_bd a b
  have ba := satV_bd a
  have bb := satV_bd b
  obtain ⟨P, hP⟩ : ∃ P, (satV a).natAbs * (satV b).natAbs = P := ⟨_, rfl⟩
  have hs := sg2_mul _ _ P hP
  have hm : ∀ w, Calls Tryz.prog 80 #[.int .i64 (satV a), .int .i64 (satV b)] w fun e w' => e = .returned (.agg #[.int .u64 (hi64 (P : Int)), .int .u64 (lo64 (P : Int)), .bool (sg2 (satV a) (satV b))]) ∧ Below w.heap.size w w' := fun w => rmul_any _ _ _ w ba.1 ba.2 bb.1 bb.2 (by rw [← hP]; simp)
  have hPa : P = (satV a * satV b).natAbs := by rw [Int.natAbs_mul, hP]
  by_cases hz : satV d = 0
  · have e2 : (h || mdivH a b d) = true := by simp [mdivH, byH, hz]
    rw [e2]
    refine rmd0 c h a b d _ _ _ P (sg2 (satV a) (satV b)) w hc hf rfl rfl hz ?_ hm
    unfold mdivV byV
    rw [if_pos hz]
    generalize satV a * satV b = X at *
    generalize sg2 (satV a) (satV b) = g at *
    subst hPa
    by_cases h0 : X = 0
    · subst h0; rfl
    · have h1 : ¬ X.natAbs = 0 := by omega
      rw [if_neg h1, if_neg h0]
      cases g
      · unfold sv at hs; simp at hs
        rw [if_neg (by simp), if_neg (by omega)]
      · unfold sv at hs; simp at hs
        rw [if_pos rfl, if_pos (by omega)]
  · have k := rdiv_sg (satV a * satV b) (satV d) hz
    rw [← hPa] at k
    have hsg : ∀ N : Nat, sv (sg2 (satV a * satV b) (satV d)) (dvM P N) = sv (!(sg2 (satV a) (satV b)) == decide (satV d < 0)) (dvM P N) ∨ P = 0 := by
      intro N
      by_cases h0 : P = 0
      · exact .inr h0
      · refine .inl ?_
        congr 1
        rw [← sg2_ne]
        have : decide (satV a * satV b < 0) = sg2 (satV a) (satV b) := by
          cases hsg : sg2 (satV a) (satV b)
          · rw [hsg] at hs; unfold sv at hs; simp at hs
            simp; omega
          · rw [hsg] at hs; unfold sv at hs; simp at hs
            simp; omega
        rw [this]
    have k2 : rdiv (satV a * satV b) (satV d) = sv (!(sg2 (satV a) (satV b)) == decide (satV d < 0)) (dvM P (satV d).natAbs) := by
      rw [k]
      rcases hsg (satV d).natAbs with h1 | h1
      · exact h1
      · subst h1
        have : dvM 0 (satV d).natAbs = 0 := by unfold dvM; rw [Nat.zero_mod, Nat.zero_div, if_neg (by omega)]
        rw [this, sv_0, sv_0]
    have e1 : mdivV a b d = satV (sv (!(sg2 (satV a) (satV b)) == decide (satV d < 0)) (dvM P (satV d).natAbs)) := by
      rw [← k2]; unfold mdivV byV; rw [if_neg hz]
    have e2 : (h || mdivH a b d) = (h || satH a || satH b || satH d || satH (sv (!(sg2 (satV a) (satV b)) == decide (satV d < 0)) (dvM P (satV d).natAbs))) := by
      rw [← k2]; unfold mdivH byH
      rw [show decide (satV d = 0) = false by simpa using hz]
      simp only [Bool.false_or, Bool.or_assoc]
    rw [e1, e2]
    rw [hP] at hp
    exact rmdS c h a b d _ _ _ P _ _ _ _ w hc hf rfl rfl rfl rfl hp rfl rfl (by simpa using hz) hm
end Go.Proofs.YtiajjiphknlldaaGreat
/- Contracts of the reference's scalars (11): Dot. -/
namespace Go.Proofs.YtiajjiphknlldaaGreat
open Go.RowKit
set_option maxRecDepth 100000
/-- What holds at the head of a round of the reference's Dot. -/
structure RDotR (c : Addr) (h : Bool) (A B : Nat → Int) (w : World) (k : Nat) (M : Nat) (m : Bool) (wr : World) : Prop where
  upd : Upd c (h || dotB A B k) w wr
  s : Wid wr w.heap.size M m
  e : sv m M = dotS A B k
  b : M ≤ k * 1329227995784915872903807060280344576
theorem adM_le (m n : Bool) (M N : Nat) : adM m n M N ≤ M + N := by unfold adM; split <;> (try split) <;> omega
set_option maxHeartbeats 4000000 in
theorem rdot30_in (c : Addr) (h : Bool) (A B : Nat → Int) (pa oa ca pb ob cb n : Nat) (w : World) (hc : w.cell? c = some (.bool h)) (hf : w.frozen? c = false)
    (hn : n ≤ 100)
    (hA : ∀ i, i < n → w.cell? ⟨pa, oa + i, none⟩ = some (.int .i64 (A i))) (hB : ∀ i, i < n → w.cell? ⟨pb, ob + i, none⟩ = some (.int .i64 (B i))) :
    Calls Tryz.prog 79 #[.pointer (some c), .int .i64 30, .slice (some ⟨pa, oa, none⟩) n ca, .slice (some ⟨pb, ob, none⟩) n cb] w fun e w' =>
      e = .returned (.int .i64 (satV (rsh (dotS A B n) 30))) ∧ Upd c (h || dotB A B n || satH (rsh (dotS A B n) 30)) w w' := by
  have hcb := World.block_lt_of_cell? w c hc
  have HA := Lib.hid hA
  have HB := Lib.hid hB
  have HC := Lib.hid hc
  have HF := Lib.hid hf
  have R0 : Hid (RDotR c h A B w 0 0 false (w.alloc (.cells #[.int .u64 0, .int .u64 0, .bool false] 137))) := by
    refine Lib.hid ⟨?_, ?_, by simp [sv, dotS], by omega⟩
    · rw [show (h || dotB A B 0) = h from by simp [dotB]]
      exact Upd.then (Upd.refl hc) (by (repeat (first | with_reducible exact Below.refl _ _ | with_reducible apply Below.drew | (with_reducible refine below_drewN ?_ _) | (with_reducible refine Below.alloc ?_ (by (try simp) <;> omega) _) | (with_reducible refine Below.setCell ?_ (by (try simp) <;> omega) _))))
    · have := Wid.new w 0 false
      rw [show hi64 0 = 0 by decide, show lo64 0 = 0 by decide] at this
      exact this
  clear hA hB hc hf
  go_enter Tryz.func79, Tryz.ntmps79
  go_upto_region 3 with fail
  generalize w.alloc (.cells #[.int .u64 0, .int .u64 0, .bool false] 137) = W0 at *
  go_wp2_with fail
  go_loopw [10] (fun i wr => ∃ (k M : Nat) (m : Bool), k ≤ n ∧ i = .int .i64 k ∧ Hid (RDotR c h A B w k M m wr)) (fun i _ => n - (intOf i).toNat)
  case atStart => exact ⟨0, 0, false, Nat.zero_le _, rfl, R0⟩
  case round =>
    obtain ⟨k, M, m, hk, rfl, R⟩ := hrel
    clear R0
    by_cases hlt : k < n
    · have q1 : decide (k < n) = true := by simpa using hlt
      have q2 : decide ((k : Int) < 100) = true := by simp; omega
      have a0 := HA.out k hlt
      have b0 := HB.out k hlt
      have u := R.out.upd
      have ra : wr.cell? ⟨pa, oa + k, none⟩ = some (.int .i64 (A k)) := (u.cell (World.block_lt_of_cell? w _ a0) (ne_of_cells HC.out a0)).trans a0
      have rb : wr.cell? ⟨pb, ob + k, none⟩ = some (.int .i64 (B k)) := (u.cell (World.block_lt_of_cell? w _ b0) (ne_of_cells HC.out b0)).trans b0
      have rc : wr.cell? c = some (.bool (h || dotB A B k)) := u.cellc HC.out
      have rf : wr.frozen? c = false := (u.frozen hcb).trans HF.out
      have hs := R.out.s
      obtain ⟨⟨s0, s1, s2⟩, t0, t1, t2⟩ := hs.c
      have la := World.block_lt_of_cell? wr _ ra
      have lb := World.block_lt_of_cell? wr _ rb
      have ls := hs.lt
      have na := ne_of_cells rc ra
      have nb := ne_of_cells rc rb
      have nS : ∀ o, c ≠ ⟨w.heap.size, o, none⟩ := fun o e => by rw [e] at hcb; simp at hcb
      obtain ⟨P, hP⟩ : ∃ P, (satV (A k)).natAbs * (satV (B k)).natAbs = P := ⟨_, rfl⟩
      obtain ⟨g, hg⟩ : ∃ g, sg2 (satV (A k)) (satV (B k)) = g := ⟨_, rfl⟩
      have hPb : P ≤ 1329227995784915872903807060280344576 := by rw [← hP]; exact abs_prod_bd _ _
      have hMb : M ≤ 132922799578491587290380706028034457600 := Nat.le_trans R.out.b (Nat.le_trans (Nat.mul_le_mul_right _ (by omega : k ≤ 100)) (by decide))
      have MU := Lib.hid (fun w => rmul_any (satV (A k)) (satV (B k)) (P : Int) w (satV_bd _).1 (satV_bd _).2 (satV_bd _).1 (satV_bd _).2 (by rw [← hP]; simp))
      rw [hg] at MU
      have AD := Lib.hid (fun w => radd_any M P m g w (by omega))
      have HE := Lib.hid (show sv (adS m g M P) (adM m g M P) = dotS A B (k + 1) ∧ adM m g M P ≤ (k + 1) * 1329227995784915872903807060280344576 by
        refine ⟨?_, ?_⟩
        · rw [sv_add, R.out.e, ← hg, sg2_mul _ _ P hP]; rfl
        · have := adM_le m g M P; have := R.out.b; omega)
      obtain ⟨N, hN⟩ : ∃ N, adM m g M P = N := ⟨_, rfl⟩
      obtain ⟨n', hn'⟩ : ∃ n', adS m g M P = n' := ⟨_, rfl⟩
      rw [hN, hn'] at AD HE
      obtain ⟨x, hx⟩ : ∃ x, satV (A k) = x := ⟨_, rfl⟩
      obtain ⟨y, hy⟩ : ∃ y, satV (B k) = y := ⟨_, rfl⟩
      rw [hx, hy] at MU
      have g1 : (wr.drew.setCell c (.bool (h || dotB A B k || satH (A k)))).cell? c = some (.bool (h || dotB A B k || satH (A k))) := World.cell?_setCell_same _ _ _ rc
      have U2 : Upd c (h || dotB A B k || satH (A k) || satH (B k)) wr ((wr.drew.setCell c (.bool (h || dotB A B k || satH (A k)))).setCell c (.bool (h || dotB A B k || satH (A k) || satH (B k)))) :=
        Upd.trans (Upd.after (Below.drew (Below.refl _ _)) (Upd.set c _ wr.drew)) (Upd.set c _ _)
      have H2 := Lib.hid U2
      have G1 := Lib.hid g1
      have HU := Lib.hid u
      have HS := Lib.hid hs
      clear U2 g1 u hs hP hg hPb hMb hN hn' a0 b0
      go_upto_region 5 with fail
      refine wp_region_M (fun w' => w'.cell? ⟨pa, oa + k, none⟩ = some (.int .i64 (A k)) ∧ w'.cell? ⟨pb, ob + k, none⟩ = some (.int .i64 (B k)) ∧ w'.cell? ⟨w.heap.size, 0, none⟩ = some (.int .u64 (hi64 (M : Int))) ∧ w'.cell? ⟨w.heap.size, 1, none⟩ = some (.int .u64 (lo64 (M : Int))) ∧ w'.cell? ⟨w.heap.size, 2, none⟩ = some (.bool m)) 15 (by kernel_rfl) ?_ (fun hHeld => ?_)
      · exact ⟨ra, rb, s0, s1, s2⟩
      refine wpAnyM_take 0 (v := ?_) rfl (by kernel_rfl) (fun _ _ _ h => h) (Or.inl ⟨by rfl, ?_⟩) (by assumption) ?_
      rotate_left
      · (intro wx hSw; (try dsimp only at hSw); go_simp; (try with_reducible rfl))
      (try simp only [Act.put, nA, nB, nC])
      refine wpAnyM_take 1 (v := ?_) rfl (by kernel_rfl) (fun _ _ _ h => h) (Or.inl ⟨by rfl, ?_⟩) (by assumption) ?_
      rotate_left
      · (intro wx hSw; (try dsimp only at hSw); go_simp; (try with_reducible rfl))
      (try simp only [Act.put, nA, nB, nC])
      refine wpAnyM_take 2 (v := ?_) rfl (by kernel_rfl) (fun _ _ _ h => h) (Or.inl ⟨by rfl, ?_⟩) (by assumption) ?_
      rotate_left
      · (intro wx hSw; (try dsimp only at hSw); go_simp; (try with_reducible rfl))
      (try simp only [Act.put, nA, nB, nC])
      refine wpAnyM_take 3 (v := ?_) rfl (by kernel_rfl) (fun _ _ _ h => h) (Or.inl ⟨by rfl, ?_⟩) (by assumption) ?_
      rotate_left
      · (intro wx hSw; (try dsimp only at hSw); go_simp; (try with_reducible rfl))
      (try simp only [Act.put, nA, nB, nC])
      refine wpAnyM_take 4 (v := ?_) rfl (by kernel_rfl) (fun _ _ _ h => h) (Or.inl ⟨by rfl, ?_⟩) (by assumption) ?_
      rotate_left
      · (intro wx hSw; (try dsimp only at hSw); go_simp; (try with_reducible rfl))
      (try simp only [Act.put, nA, nB, nC])
      refine wpAnyM_take 5 (v := ?_) rfl (by kernel_rfl) (fun _ _ _ h => h) (Or.inl ⟨by rfl, ?_⟩) (by assumption) ?_
      rotate_left
      · (intro wx hSw; (try dsimp only at hSw); go_simp; (try with_reducible rfl))
      (try simp only [Act.put, nA, nB, nC])
      refine wpAnyM_take 7 (v := ?_) rfl (by kernel_rfl) (fun _ _ _ h => h) (Or.inl ⟨by rfl, ?_⟩) (by assumption) ?_
      rotate_left
      · (intro wx hSw; (try dsimp only at hSw); go_simp; (try with_reducible rfl))
      (try simp only [Act.put, nA, nB, nC])
      refine wpAnyM_take 8 (v := ?_) rfl (by kernel_rfl) (fun _ _ _ h => h) (Or.inl ⟨by rfl, ?_⟩) (by assumption) ?_
      rotate_left
      · (intro wx hSw; (try dsimp only at hSw); go_simp; (try with_reducible rfl))
      (try simp only [Act.put, nA, nB, nC])
      refine wpAnyM_take 9 (v := ?_) rfl (by kernel_rfl) (fun _ _ _ h => h) (Or.inl ⟨by rfl, ?_⟩) (by assumption) ?_
      rotate_left
      · (intro wx hSw; (try dsimp only at hSw); go_simp; (try with_reducible rfl))
      (try simp only [Act.put, nA, nB, nC])
      refine wpAnyM_take 10 (v := ?_) rfl (by kernel_rfl) (fun _ _ _ h => h) (Or.inl ⟨by rfl, ?_⟩) (by assumption) ?_
      rotate_left
      · (intro wx hSw; (try dsimp only at hSw); go_simp; (try with_reducible rfl))
      (try simp only [Act.put, nA, nB, nC])
      refine wpAnyM_take 11 (v := ?_) rfl (by kernel_rfl) (fun _ _ _ h => h) (Or.inl ⟨by rfl, ?_⟩) (by assumption) ?_
      rotate_left
      · (intro wx hSw; (try dsimp only at hSw); go_simp; (try with_reducible rfl))
      (try simp only [Act.put, nA, nB, nC])
      refine wpAnyM_oneS 6 rfl (by kernel_rfl) (fun K hK => ?_)
      go_simp
      (refine (rsat_any c (h || dotB A B k) (A k) wr.drew rc rf).mono ?_); rintro e w' ⟨rfl, rfl⟩
      (try dsimp only)
      (try simp only [Act.put, nA, nB, nC])
      clear hHeld
      refine hK.out _ _ ?_ (fun hHeld => ?_)
      · simp [go_sem, *]
      clear hK K
      (try simp only [Act.put, nA, nB, nC])
      refine wpAnyM_oneS 12 rfl (by kernel_rfl) (fun K hK => ?_)
      go_simp
      (refine (rsat_any c (h || dotB A B k || satH (A k)) (B k) _ G1.out (by simp [rf])).mono ?_); rintro e w' ⟨rfl, rfl⟩
      (try dsimp only)
      (try simp only [Act.put, nA, nB, nC])
      clear hHeld
      refine hK.out _ _ ?_ (fun hHeld => ?_)
      · simp [go_sem, *]
      clear hK K
      (try simp only [Act.put, nA, nB, nC])
      refine wpAnyM_oneS 13 rfl (by kernel_rfl) (fun K hK => ?_)
      go_simp
      (refine (MU.out _).mono ?_); rintro e w3 ⟨rfl, hb3⟩; have U3 := Lib.hid (Upd.then H2.out hb3); have kp := (show _ ∧ _ ∧ _ ∧ _ ∧ _ from ⟨(U3.out.cell la na).trans ra, (U3.out.cell lb nb).trans rb, (U3.out.cell ls (nS 0)).trans s0, (U3.out.cell ls (nS 1)).trans s1, (U3.out.cell ls (nS 2)).trans s2⟩)
      (try dsimp only)
      (try simp only [Act.put, nA, nB, nC])
      clear hHeld
      refine hK.out _ _ ?_ (fun hHeld => ?_)
      · exact kp
      clear hK K
      (try simp only [Act.put, nA, nB, nC])
      refine wpAnyM_oneS 14 rfl (by kernel_rfl) (fun K hK => ?_)
      go_simp
      (refine (AD.out _).mono ?_); rintro e w4 ⟨rfl, hb4⟩; have U4 := Lib.hid (Upd.then U3.out hb4); have kp2 := (show _ ∧ _ ∧ _ ∧ _ ∧ _ from ⟨(U4.out.cell la na).trans ra, (U4.out.cell lb nb).trans rb, (U4.out.cell ls (nS 0)).trans s0, (U4.out.cell ls (nS 1)).trans s1, (U4.out.cell ls (nS 2)).trans s2⟩); have fz0 : w4.frozen? ⟨w.heap.size, 0, none⟩ = false := (U4.out.frozen ls).trans t0; have fz1 : w4.frozen? ⟨w.heap.size, 1, none⟩ = false := (U4.out.frozen ls).trans t1; have fz2 : w4.frozen? ⟨w.heap.size, 2, none⟩ = false := (U4.out.frozen ls).trans t2; obtain ⟨x0, x1, y0, y1, y2⟩ := kp2; have kp2 := And.intro x0 (And.intro x1 (And.intro y0 (And.intro y1 y2)))
      (try dsimp only)
      (try simp only [Act.put, nA, nB, nC])
      clear hHeld
      refine hK.out _ _ ?_ (fun hHeld => ?_)
      · exact kp2
      clear hK K
      (try simp only [Act.put, nA, nB, nC])
      refine wpAnyM_one 15 rfl (by kernel_rfl) (fun K hK => ?_)
      go_simp
      refine hK.out _ _ (.inl (by kernel_rfl)) (fun _ => ?_)
      clear hK K
      (try simp only [Act.put, nA, nB, nC])
      refine wpAnyM_done (by kernel_rfl) ?_ _
      go_wp2_with fail
      go_roundw
      case rel =>
        refine ⟨k + 1, N, n', by omega, by go_num, ?_⟩
        have U := HU.out.trans U4.out
        have W4 : Wid w4 w.heap.size (M : Int) m := (U4.out.block ls (by omega)).trans HS.out
        refine Lib.hid ⟨?_, W4.set _ _, HE.out.1, HE.out.2⟩
        rw [show (h || dotB A B (k + 1)) = (h || dotB A B k || satH (A k) || satH (B k)) from by simp [dotB, Bool.or_assoc]]
        exact ((U.setCell (Nat.le_refl _) _).setCell (Nat.le_refl _) _).setCell (Nat.le_refl _) _
      case measure => simp [intOf]; omega
    · have hkn : k = n := by omega
      subst hkn
      have q1 : decide (k < k) = false := by simp
      have hsum := R.out.e
      have u := R.out.upd
      have hMb : M ≤ 132922799578491587290380706028034457600 := Nat.le_trans R.out.b (Nat.le_trans (Nat.mul_le_mul_right _ (by omega : k ≤ 100)) (by decide))
      have rc : wr.cell? c = some (.bool (h || dotB A B k)) := u.cellc HC.out
      have rf : wr.frozen? c = false := (u.frozen hcb).trans HF.out
      obtain ⟨⟨s0, s1, s2⟩, _⟩ := R.out.s.c
      have SH := Lib.hid (fun w => rshift30_any M m w (by omega))
      have HU := Lib.hid u
      have hwr := HU.out.size
      have HSUM := Lib.hid (show rsh (dotS A B k) 30 = sv m (shM M 30) by rw [← hsum, rsh_sv])
      clear u hMb hsum
      go_wp2_with fail
      refine (SH.out _).mono ?_; rintro e w5 ⟨rfl, hb5⟩
      go_wp2_with fail
      refine (rend2_any c (h || dotB A B k) (shM M 30) m _ ((hb5.cell (by omega)).trans rc) ((hb5.frozen (by omega)).trans rf)).mono ?_; rintro e w6 ⟨rfl, hu6⟩
      go_wp2_with fail
      go_ret
      rw [HSUM.out]
      exact ⟨rfl, HU.out.trans (Upd.after hb5 hu6)⟩
/-- The reference's Dot, as the program's. -/
theorem rdot_any (c : Addr) (h : Bool) (A B : Nat → Int) (pa oa ca pb ob cb n : Nat) (w : World) (hc : w.cell? c = some (.bool h)) (hf : w.frozen? c = false)
    (hn : n ≤ 100)
    (hA : ∀ i, i < n → w.cell? ⟨pa, oa + i, none⟩ = some (.int .i64 (A i))) (hB : ∀ i, i < n → w.cell? ⟨pb, ob + i, none⟩ = some (.int .i64 (B i))) :
    Calls Tryz.prog 79 #[.pointer (some c), .int .i64 30, .slice (some ⟨pa, oa, none⟩) n ca, .slice (some ⟨pb, ob, none⟩) n cb] w fun e w' =>
      e = .returned (.int .i64 (dotV 30 A B n)) ∧ Upd c (h || dotH 30 A B n) w w' := by
  have hs : ¬ ((30 : Int) < 0 ∨ 120 < (30 : Int)) := by omega
  have e1 : dotV 30 A B n = satV (rsh (dotS A B n) 30) := by simp only [dotV, if_neg hs]; rfl
  have e2 : (h || dotH 30 A B n) = (h || dotB A B n || satH (rsh (dotS A B n) 30)) := by simp only [dotH, if_neg hs, Bool.or_assoc]; rfl
  rw [e1, e2]
  exact rdot30_in c h A B pa oa ca pb ob cb n w hc hf hn hA hB
end Go.Proofs.YtiajjiphknlldaaGreat
/- Contracts of the reference's covariance (1): place, U, Condition. -/
namespace Go.Proofs.YtiajjiphknlldaaGreat
open Go.RowKit
set_option maxRecDepth 100000
theorem rplace_any (i j : Nat) (w : World) (_hi : i < 24) (hj : j < 24) (h1 : i < j) :
    Calls Tryz.prog 57 #[.int .i64 i, .int .i64 j] w fun e w' => e = .returned (.int .i64 (pl i j : Nat)) ∧ w = w' := by
  have hmul : (j : Int) * ((j : Int) - 1) = ((j * (j - 1) : Nat) : Int) := by
    cases j with
    | zero => simp
    | succ n => rw [Int.natCast_mul, show ((n + 1 : Nat) : Int) - 1 = ((n + 1 - 1 : Nat) : Int) from by omega]
  have hb : j * (j - 1) ≤ 23 * 22 := Nat.mul_le_mul (by omega) (by omega)
  obtain ⟨T, hT⟩ : ∃ T, j * (j - 1) = T := ⟨_, rfl⟩
  have hp : pl i j = T / 2 + i := by unfold pl; rw [hT]
  rw [hT] at hmul hb
  have e1 : IntKind.i64.wrap ((j : Int) - 1) = (j : Int) - 1 := IntWalk.i64_in _ (by omega)
  have e2 : IntKind.i64.wrap ((j : Int) * ((j : Int) - 1)) = (T : Int) := by rw [hmul]; exact IntWalk.i64_in _ (by omega)
  obtain ⟨D, hD⟩ : ∃ D, T / 2 = D := ⟨_, rfl⟩
  rw [hD] at hp
  have e3 : IntKind.i64.wrap ((T : Int) / 2) = (D : Int) := by rw [show ((T : Int) / 2) = (D : Int) by omega]; exact IntWalk.i64_in _ (by omega)
  have e4 : IntKind.i64.wrap ((D : Int) + (i : Int)) = (D : Int) + (i : Int) := IntWalk.i64_in _ (by omega)
  have HP := Lib.hid hp
  clear hp hb hmul hT hD
  go_enter Tryz.func57, Tryz.ntmps57
  go_wp2_with fail
  go_ret
  refine ⟨?_, rfl⟩
  rw [HP.out]
  simp
theorem rU_any (f : Nat → Int) (pb i j : Nat) (w : World) (hi : i < 24) (hj : j < 24) (hB : Blk w pb 26 300 f) :
    Calls Tryz.prog 54 #[.pointer (some ⟨pb, 0, none⟩), .int .i64 i, .int .i64 j] w fun e w' => e = .returned (.int .i64 (uV f i j)) ∧ Below w.heap.size w w' := by
  have g1 : decide ((i : Int) < 0) = false := by simp
  have g2 : decide ((j : Int) < 0) = false := by simp
  have g3 : decide (24 ≤ (i : Int)) = false := by simp; omega
  have g4 : decide (24 ≤ (j : Int)) = false := by simp; omega
  by_cases h1 : j < i
  · have g5 : decide (j < i) = true := by simpa using h1
    rw [show uV f i j = 0 from by unfold uV; rw [if_neg (by omega), if_neg (by omega)]]
    go_enter Tryz.func54, Tryz.ntmps54
    go_wp2_with fail
    go_ret
    exact ⟨rfl, by (repeat (first | with_reducible exact Below.refl _ _ | with_reducible apply Below.drew | (with_reducible refine below_drewN ?_ _) | (with_reducible refine Below.alloc ?_ (by (try simp) <;> omega) _) | (with_reducible refine Below.setCell ?_ (by (try simp) <;> omega) _)))⟩
  have g5 : decide (j < i) = false := by simpa using h1
  by_cases h2 : i = j
  · subst h2
    rw [show uV f i i = 1073741824 from by unfold uV; rw [if_pos rfl]]
    have g6 : ((i : Int) == (i : Int)) = true := by simp
    go_enter Tryz.func54, Tryz.ntmps54
    go_wp2_with fail
    go_ret
    exact ⟨rfl, by (repeat (first | with_reducible exact Below.refl _ _ | with_reducible apply Below.drew | (with_reducible refine below_drewN ?_ _) | (with_reducible refine Below.alloc ?_ (by (try simp) <;> omega) _) | (with_reducible refine Below.setCell ?_ (by (try simp) <;> omega) _)))⟩
  · have g6 : ((i : Int) == (j : Int)) = false := by simp; omega
    rw [show uV f i j = f (pl i j) from by unfold uV; rw [if_neg h2, if_pos (by omega)]]
    have hp := pl_lt (i := i) (j := j) (by omega) hj
    have PC := Lib.hid (fun w => rplace_any i j w hi hj (by omega))
    obtain ⟨p, hpp⟩ : ∃ p, pl i j = p := ⟨_, rfl⟩
    rw [hpp] at hp PC ⊢
    have b0 := hB.cell (i := p) (by omega)
    have p0 : (0 : Int) ≤ (p : Int) := Int.natCast_nonneg _
    have p1 : (p : Int) < 276 := by omega
    clear hpp h1 h2
    go_enter Tryz.func54, Tryz.ntmps54
    go_upto_region 5 with fail
    refine wp_region_M (fun w' => w'.cell? ⟨pb, p, none⟩ = some (.int .i64 (f p))) 8 (by kernel_rfl) ?_ (fun hHeld => ?_)
    · exact b0
    refine wpAnyM_take 0 (v := ?_) rfl (by kernel_rfl) (fun _ _ _ h => h) (Or.inl ⟨by rfl, ?_⟩) (by assumption) ?_
    rotate_left
    · (intro wx hSw; (try dsimp only at hSw); go_simp; (try with_reducible rfl))
    (try simp only [Act.put, nA, nB, nC])
    refine wpAnyM_take 1 (v := ?_) rfl (by kernel_rfl) (fun _ _ _ h => h) (Or.inl ⟨by rfl, ?_⟩) (by assumption) ?_
    rotate_left
    · (intro wx hSw; (try dsimp only at hSw); go_simp; (try with_reducible rfl))
    (try simp only [Act.put, nA, nB, nC])
    refine wpAnyM_take 2 (v := ?_) rfl (by kernel_rfl) (fun _ _ _ h => h) (Or.inl ⟨by rfl, ?_⟩) (by assumption) ?_
    rotate_left
    · (intro wx hSw; (try dsimp only at hSw); go_simp; (try with_reducible rfl))
    (try simp only [Act.put, nA, nB, nC])
    refine wpAnyM_take 4 (v := ?_) rfl (by kernel_rfl) (fun _ _ _ h => h) (Or.inl ⟨by rfl, ?_⟩) (by assumption) ?_
    rotate_left
    · (intro wx hSw; (try dsimp only at hSw); go_simp; (try with_reducible rfl))
    (try simp only [Act.put, nA, nB, nC])
    refine wpAnyM_take 5 (v := ?_) rfl (by kernel_rfl) (fun _ _ _ h => h) (Or.inl ⟨by rfl, ?_⟩) (by assumption) ?_
    rotate_left
    · (intro wx hSw; (try dsimp only at hSw); go_simp; (try with_reducible rfl))
    (try simp only [Act.put, nA, nB, nC])
    refine wpAnyM_oneS 3 rfl (by kernel_rfl) (fun K hK => ?_)
    go_simp
    (refine (PC.out _).mono ?_); rintro e w' ⟨rfl, rfl⟩
    (try dsimp only)
    (try simp only [Act.put, nA, nB, nC])
    clear hHeld
    refine hK.out _ _ ?_ (fun hHeld => ?_)
    · exact b0
    clear hK K
    (try simp only [Act.put, nA, nB, nC])
    refine wpAnyM_take 6 (v := ?_) rfl (by kernel_rfl) (fun _ _ _ h => h) (Or.inl ⟨by rfl, ?_⟩) (by assumption) ?_
    rotate_left
    · (intro wx hSw; (try dsimp only at hSw); go_simp; (try with_reducible rfl))
    (try simp only [Act.put, nA, nB, nC])
    refine wpAnyM_take 7 (v := ?_) rfl (by kernel_rfl) (fun _ _ _ h => h) (Or.inl ⟨by rfl, ?_⟩) (by assumption) ?_
    rotate_left
    · (intro wx hSw; (try dsimp only at hSw); go_simp; (try with_reducible rfl))
    (try simp only [Act.put, nA, nB, nC])
    refine wpAnyM_one 8 rfl (by kernel_rfl) (fun K hK => ?_)
    go_simp
    refine hK.out _ _ (.inl (by kernel_rfl)) (fun _ => ?_)
    clear hK K
    (try simp only [Act.put, nA, nB, nC])
    refine wpAnyM_done (by kernel_rfl) ?_ _
    go_wp2_with fail
    go_ret
    exact ⟨rfl, by (repeat (first | with_reducible exact Below.refl _ _ | with_reducible apply Below.drew | (with_reducible refine below_drewN ?_ _) | (with_reducible refine Below.alloc ?_ (by (try simp) <;> omega) _) | (with_reducible refine Below.setCell ?_ (by (try simp) <;> omega) _)))⟩
set_option maxHeartbeats 2000000 in
theorem rcond_any (c : Addr) (h : Bool) (f : Nat → Int) (w : World) (hc : w.cell? c = some (.bool h)) (hf : w.frozen? c = false) :
    Calls Tryz.prog 21 #[.pointer (some c), .agg (arrv 300 f)] w fun e w' => e = .returned (.agg (arrv 300 (condF f))) ∧ Upd c (h || condH f) w w' := by
  have hcb := World.block_lt_of_cell? w c hc
  have HC := Lib.hid hc
  have HF := Lib.hid hf
  clear hc hf
  go_enter Tryz.func21, Tryz.ntmps21
  go_wp2_with fail
  go_loopw [5] (fun i wr => ∃ k : Nat, k ≤ 24 ∧ i = .int .i64 k ∧ Hid (CondR c (h || orB (fun i => varH (f (276 + i))) k) (condD f k) w wr)) (fun i _ => 24 - (intOf i).toNat)
  case atStart =>
    refine ⟨0, by omega, rfl, ⟨?_, ?_, ?_⟩⟩
    · rw [show (h || orB (fun i => varH (f (276 + i))) 0) = h from by simp [orB]]
      exact Upd.then (Upd.refl HC.out) (by (repeat (first | with_reducible exact Below.refl _ _ | with_reducible apply Below.drew | (with_reducible refine below_drewN ?_ _) | (with_reducible refine Below.alloc ?_ (by (try simp) <;> omega) _) | (with_reducible refine Below.setCell ?_ (by (try simp) <;> omega) _))))
    · exact (Blk.alloc (Blk.new w _ 300 f) _).congr fun i hi => by simp [condD]; omega
    · rw [zcov]; exact Blk.new1 w _ _ 300 _
  case round =>
    obtain ⟨k, hk, rfl, R⟩ := hrel
    by_cases hlt : k < 24
    · have d1 : decide ((k : Int) < 24) = true := by simp; omega
      have k0 : (0 : Int) ≤ (k : Int) := Int.natCast_nonneg _
      have k1 : (k : Int) < 24 := by omega
      have rc := R.out.upd.cellc HC.out
      have rf := (R.out.upd.frozen hcb).trans HF.out
      have b0 := R.out.blk.cell (i := 276 + k) (by omega)
      have b1 := R.out.blk.free (276 + k)
      have n0 := ne_of_cells rc b0
      have hv : condD f k (276 + k) = f (276 + k) := by simp [condD]
      rw [hv] at b0
      clear hv
      have CC := Lib.hid (rclamp_any c _ (f (276 + k)) 1 72057594037927936 wr.drew rc rf)
      go_upto_region 4 with fail
      refine wp_region_M (fun w' => w'.cell? ⟨w.heap.size, 276 + k, none⟩ = some (.int .i64 (f (276 + k)))) 11 (by kernel_rfl) ?_ (fun hHeld => ?_)
      · exact b0
      refine wpAnyM_take 0 (v := ?_) rfl (by kernel_rfl) (fun _ _ _ h => h) (Or.inl ⟨by rfl, ?_⟩) (by assumption) ?_
      rotate_left
      · (intro wx hSw; (try dsimp only at hSw); go_simp; (try with_reducible rfl))
      (try simp only [Act.put, nA, nB, nC])
      refine wpAnyM_take 1 (v := ?_) rfl (by kernel_rfl) (fun _ _ _ h => h) (Or.inl ⟨by rfl, ?_⟩) (by assumption) ?_
      rotate_left
      · (intro wx hSw; (try dsimp only at hSw); go_simp; (try with_reducible rfl))
      (try simp only [Act.put, nA, nB, nC])
      refine wpAnyM_take 2 (v := ?_) rfl (by kernel_rfl) (fun _ _ _ h => h) (Or.inl ⟨by rfl, ?_⟩) (by assumption) ?_
      rotate_left
      · (intro wx hSw; (try dsimp only at hSw); go_simp; (try with_reducible rfl))
      (try simp only [Act.put, nA, nB, nC])
      refine wpAnyM_take 3 (v := ?_) rfl (by kernel_rfl) (fun _ _ _ h => h) (Or.inl ⟨by rfl, ?_⟩) (by assumption) ?_
      rotate_left
      · (intro wx hSw; (try dsimp only at hSw); go_simp; (try with_reducible rfl))
      (try simp only [Act.put, nA, nB, nC])
      refine wpAnyM_take 4 (v := ?_) rfl (by kernel_rfl) (fun _ _ _ h => h) (Or.inl ⟨by rfl, ?_⟩) (by assumption) ?_
      rotate_left
      · (intro wx hSw; (try dsimp only at hSw); go_simp; (try with_reducible rfl))
      (try simp only [Act.put, nA, nB, nC])
      refine wpAnyM_take 5 (v := ?_) rfl (by kernel_rfl) (fun _ _ _ h => h) (Or.inl ⟨by rfl, ?_⟩) (by assumption) ?_
      rotate_left
      · (intro wx hSw; (try dsimp only at hSw); go_simp; (try with_reducible rfl))
      (try simp only [Act.put, nA, nB, nC])
      refine wpAnyM_take 6 (v := ?_) rfl (by kernel_rfl) (fun _ _ _ h => h) (Or.inl ⟨by rfl, ?_⟩) (by assumption) ?_
      rotate_left
      · (intro wx hSw; (try dsimp only at hSw); go_simp; (try with_reducible rfl))
      (try simp only [Act.put, nA, nB, nC])
      refine wpAnyM_take 7 (v := ?_) rfl (by kernel_rfl) (fun _ _ _ h => h) (Or.inl ⟨by rfl, ?_⟩) (by assumption) ?_
      rotate_left
      · (intro wx hSw; (try dsimp only at hSw); go_simp; (try with_reducible rfl))
      (try simp only [Act.put, nA, nB, nC])
      refine wpAnyM_takeW 9 (v := ?_) rfl (by kernel_rfl) (fun _ _ _ h => h) (Or.inl ⟨by rfl, ?_⟩) (.inr (by assumption)) ?_
      rotate_left
      · (intro wx hSw; (try dsimp only at hSw); go_simp; (try with_reducible rfl))
      (try simp only [Act.put, nA, nB, nC])
      refine wpAnyM_oneS 8 rfl (by kernel_rfl) (fun K hK => ?_)
      go_simp
      (refine CC.out.mono ?_); rintro e w' ⟨rfl, rfl⟩
      (try dsimp only)
      (try simp only [Act.put, nA, nB, nC])
      clear hHeld
      refine hK.out _ _ ?_ (fun hHeld => ?_)
      · simp [go_sem, *]
      clear hK K
      (try simp only [Act.put, nA, nB, nC])
      refine wpAnyM_take 10 (v := ?_) rfl (by kernel_rfl) (fun _ _ _ h => h) (Or.inl ⟨by rfl, ?_⟩) (by assumption) ?_
      rotate_left
      · (intro wx hSw; (try dsimp only at hSw); go_simp; (try with_reducible rfl))
      (try simp only [Act.put, nA, nB, nC])
      refine wpAnyM_one 11 rfl (by kernel_rfl) (fun K hK => ?_)
      go_simp
      refine hK.out _ _ (.inl (by kernel_rfl)) (fun _ => ?_)
      clear hK K
      (try simp only [Act.put, nA, nB, nC])
      refine wpAnyM_done (by kernel_rfl) ?_ _
      go_wp2_with fail
      go_roundw
      case rel =>
        refine ⟨k + 1, by omega, by go_num, ⟨?_, ?_, ?_⟩⟩
        · rw [show (h || orB (fun i => varH (f (276 + i))) (k + 1)) = (h || orB (fun i => varH (f (276 + i))) k || clampH (f (276 + k)) 1 72057594037927936) from by simp [orB, varH, Bool.or_assoc]]
          exact (R.out.upd.trans (Upd.after (Below.drew (Below.refl _ _)) (Upd.set c _ _))).setCell (Nat.le_refl _) _
        · refine (((R.out.blk.drew).other (R.out.blk.flag rc) _).set _ _).congr fun i hi => ?_
          simp only [Go.Proofs.YtiajjiphknlldaaGreat.upd, condD, varV]
          by_cases h1 : i = 276 + k
          · subst h1; simp
          · rw [if_neg h1]; split <;> split <;> first | rfl | omega
        · exact ((R.out.res.drew).other (R.out.res.flag rc) _).other (by simp) _
      case measure => simp [intOf]; omega
    · have hk24 : k = 24 := by omega
      subst hk24
      have HR := R
      clear R hlt hk
      rw [show ((24 : Nat) : Int) = 24 from rfl]
      go_wp2_with fail
      go_loopw [6] (fun i wr => ∃ k : Nat, k ≤ 276 ∧ i = .int .i64 k ∧ Hid (CondR c (h || orB (fun i => varH (f (276 + i))) 24 || orB (fun i => satH (f i)) k) (condU f k) w wr)) (fun i _ => 276 - (intOf i).toNat)
      case atStart =>
        refine ⟨0, by omega, rfl, ⟨?_, HR.out.blk.congr fun i hi => by simp [condD, condU]; split <;> split <;> first | rfl | omega, HR.out.res⟩⟩
        rw [show (h || orB (fun i => varH (f (276 + i))) 24 || orB (fun i => satH (f i)) 0) = (h || orB (fun i => varH (f (276 + i))) 24) from by simp [orB]]
        exact HR.out.upd
      case round =>
        obtain ⟨k, hk, rfl, R⟩ := hrel
        by_cases hlt : k < 276
        · have d1 : decide ((k : Int) < 276) = true := by simp; omega
          have k0 : (0 : Int) ≤ (k : Int) := Int.natCast_nonneg _
          have k1 : (k : Int) < 276 := by omega
          have rc := R.out.upd.cellc HC.out
          have rf := (R.out.upd.frozen hcb).trans HF.out
          have b0 := R.out.blk.cell (i := k) (by omega)
          have b1 := R.out.blk.free k
          have n0 := ne_of_cells rc b0
          have hv : condU f k k = f k := by simp [condU]; omega
          rw [hv] at b0
          clear hv
          have CC := Lib.hid (rclamp_any c _ (f k) (-1152921504606846976) 1152921504606846976 wr.drew rc rf)
          go_upto_region 8 with fail
          refine wp_region_M (fun w' => w'.cell? ⟨w.heap.size, k, none⟩ = some (.int .i64 (f k))) 11 (by kernel_rfl) ?_ (fun hHeld => ?_)
          · exact b0
          refine wpAnyM_take 0 (v := ?_) rfl (by kernel_rfl) (fun _ _ _ h => h) (Or.inl ⟨by rfl, ?_⟩) (by assumption) ?_
          rotate_left
          · (intro wx hSw; (try dsimp only at hSw); go_simp; (try with_reducible rfl))
          (try simp only [Act.put, nA, nB, nC])
          refine wpAnyM_take 1 (v := ?_) rfl (by kernel_rfl) (fun _ _ _ h => h) (Or.inl ⟨by rfl, ?_⟩) (by assumption) ?_
          rotate_left
          · (intro wx hSw; (try dsimp only at hSw); go_simp; (try with_reducible rfl))
          (try simp only [Act.put, nA, nB, nC])
          refine wpAnyM_take 2 (v := ?_) rfl (by kernel_rfl) (fun _ _ _ h => h) (Or.inl ⟨by rfl, ?_⟩) (by assumption) ?_
          rotate_left
          · (intro wx hSw; (try dsimp only at hSw); go_simp; (try with_reducible rfl))
          (try simp only [Act.put, nA, nB, nC])
          refine wpAnyM_take 3 (v := ?_) rfl (by kernel_rfl) (fun _ _ _ h => h) (Or.inl ⟨by rfl, ?_⟩) (by assumption) ?_
          rotate_left
          · (intro wx hSw; (try dsimp only at hSw); go_simp; (try with_reducible rfl))
          (try simp only [Act.put, nA, nB, nC])
          refine wpAnyM_take 4 (v := ?_) rfl (by kernel_rfl) (fun _ _ _ h => h) (Or.inl ⟨by rfl, ?_⟩) (by assumption) ?_
          rotate_left
          · (intro wx hSw; (try dsimp only at hSw); go_simp; (try with_reducible rfl))
          (try simp only [Act.put, nA, nB, nC])
          refine wpAnyM_take 5 (v := ?_) rfl (by kernel_rfl) (fun _ _ _ h => h) (Or.inl ⟨by rfl, ?_⟩) (by assumption) ?_
          rotate_left
          · (intro wx hSw; (try dsimp only at hSw); go_simp; (try with_reducible rfl))
          (try simp only [Act.put, nA, nB, nC])
          refine wpAnyM_take 6 (v := ?_) rfl (by kernel_rfl) (fun _ _ _ h => h) (Or.inl ⟨by rfl, ?_⟩) (by assumption) ?_
          rotate_left
          · (intro wx hSw; (try dsimp only at hSw); go_simp; (try with_reducible rfl))
          (try simp only [Act.put, nA, nB, nC])
          refine wpAnyM_take 7 (v := ?_) rfl (by kernel_rfl) (fun _ _ _ h => h) (Or.inl ⟨by rfl, ?_⟩) (by assumption) ?_
          rotate_left
          · (intro wx hSw; (try dsimp only at hSw); go_simp; (try with_reducible rfl))
          (try simp only [Act.put, nA, nB, nC])
          refine wpAnyM_takeW 9 (v := ?_) rfl (by kernel_rfl) (fun _ _ _ h => h) (Or.inl ⟨by rfl, ?_⟩) (.inr (by assumption)) ?_
          rotate_left
          · (intro wx hSw; (try dsimp only at hSw); go_simp; (try with_reducible rfl))
          (try simp only [Act.put, nA, nB, nC])
          refine wpAnyM_oneS 8 rfl (by kernel_rfl) (fun K hK => ?_)
          go_simp
          (refine CC.out.mono ?_); rintro e w' ⟨rfl, rfl⟩
          (try dsimp only)
          (try simp only [Act.put, nA, nB, nC])
          clear hHeld
          refine hK.out _ _ ?_ (fun hHeld => ?_)
          · simp [go_sem, *]
          clear hK K
          (try simp only [Act.put, nA, nB, nC])
          refine wpAnyM_take 10 (v := ?_) rfl (by kernel_rfl) (fun _ _ _ h => h) (Or.inl ⟨by rfl, ?_⟩) (by assumption) ?_
          rotate_left
          · (intro wx hSw; (try dsimp only at hSw); go_simp; (try with_reducible rfl))
          (try simp only [Act.put, nA, nB, nC])
          refine wpAnyM_one 11 rfl (by kernel_rfl) (fun K hK => ?_)
          go_simp
          refine hK.out _ _ (.inl (by kernel_rfl)) (fun _ => ?_)
          clear hK K
          (try simp only [Act.put, nA, nB, nC])
          refine wpAnyM_done (by kernel_rfl) ?_ _
          go_wp2_with fail
          go_roundw
          case rel =>
            refine ⟨k + 1, by omega, by go_num, ⟨?_, ?_, ?_⟩⟩
            · rw [show (h || orB (fun i => varH (f (276 + i))) 24 || orB (fun i => satH (f i)) (k + 1)) = (h || orB (fun i => varH (f (276 + i))) 24 || orB (fun i => satH (f i)) k || clampH (f k) (-1152921504606846976) 1152921504606846976) from by simp [orB, satH, Bool.or_assoc]]
              exact (R.out.upd.trans (Upd.after (Below.drew (Below.refl _ _)) (Upd.set c _ _))).setCell (Nat.le_refl _) _
            · refine (((R.out.blk.drew).other (R.out.blk.flag rc) _).set _ _).congr fun i hi => ?_
              simp only [Go.Proofs.YtiajjiphknlldaaGreat.upd, condU, satV]
              by_cases h1 : i = k
              · subst h1; simp
              · rw [if_neg h1]; repeat' split
                all_goals first | rfl | omega
            · exact ((R.out.res.drew).other (R.out.res.flag rc) _).other (by simp) _
          case measure => simp [intOf]; omega
        · have hk276 : k = 276 := by omega
          subst hk276
          have B0 := R.out.blk
          have B1 := R.out.res
          have U := Lib.hid R.out.upd
          have hl := B1.lt
          clear R hlt hk HR
          go_wp2_with (first | (refine wpList_load_row rfl 26 _ rfl w.heap.size rfl 26 _ (0, 0) _ B0 Tryz.underlying26 rfl (icov.trans (by rw [arrv_size])) ?_) | (refine wpList_store_row rfl 26 _ _ rfl (w.heap.size + 1) _ rfl rfl 26 _ B1 (icov.trans (by rw [arrv_size])) (by rw [arrv_size, arrv_size]) (oneCell_arrv _ _) ?_))
          refine bodyPost_ret (results_cell_row Tryz.results21 _ _ (w.heap.size + 1) 26 (arrv 300 (condU f 276)) (0, 0) _ rfl (setRow_heap _ _ _ _ _ _ B1) Tryz.underlying26 rfl (icov.trans (by rw [arrv_size]))) rfl ⟨?_, ?_⟩
          · rw [arrv_congr (g := condF f) fun i hi => ?_]
            simp only [condU, condF]
            by_cases h1 : i < 276
            · simp [h1]
            · rw [if_neg h1, if_neg h1, if_pos (by omega)]
          · rw [show (h || condH f) = (h || orB (fun i => varH (f (276 + i))) 24 || orB (fun i => satH (f i)) 276) from by simp [condH, Bool.or_assoc]]
            exact U.out.then' (below_row (Below.refl _ _) (by omega) _)
end Go.Proofs.YtiajjiphknlldaaGreat
/- The reference's Step: what it keeps, number by number. -/
namespace Go.Proofs.YtiajjiphknlldaaGreat
open Go.RowKit
set_option maxRecDepth 100000
/-- The blocks of the call. -/
structure RsA (c : Addr) (h : Bool) (P Q : Nat → Int) (w wr : World) : Prop where
  upd : Upd c h w wr
  pB : Blk wr w.heap.size 26 300 P
  qB : Blk wr (w.heap.size + 1) 22 24 Q
  rB : Blk wr (w.heap.size + 1 + 1) 26 300 (fun _ => 0)
theorem RsA.upd' {c : Addr} {h h' : Bool} {P Q : Nat → Int} {w wr w' : World} (s : RsA c h P Q w wr) (hc : c.block < w.heap.size) (u : Upd c h' wr w') : RsA c h' P Q w w' :=
  ⟨s.upd.trans u, s.pB.upd u (by omega), s.qB.upd u (by omega), s.rB.upd u (by omega)⟩
theorem RsA.below {c : Addr} {h : Bool} {P Q : Nat → Int} {w wr w' : World} (s : RsA c h P Q w wr) (b : Below wr.heap.size wr w') : RsA c h P Q w w' :=
  ⟨s.upd.then b, s.pB.below b, s.qB.below b, s.rB.below b⟩
theorem RsA.other {c : Addr} {h : Bool} {P Q : Nat → Int} {w wr : World} (s : RsA c h P Q w wr) {b o : Nat} (hb : w.heap.size + 2 < b) (v : Value) : RsA c h P Q w (wr.setCell ⟨b, o, none⟩ v) :=
  ⟨s.upd.setCell (by simp; omega) _, s.pB.other (by simp; omega) _, s.qB.other (by simp; omega) _, s.rB.other (by simp; omega) _⟩
end Go.Proofs.YtiajjiphknlldaaGreat
/- A region that draws its order: behind its last call another fact about the world may be taken up. -/
namespace Go.Proofs.YtiajjiphknlldaaGreat
open Go
end Go.Proofs.YtiajjiphknlldaaGreat
