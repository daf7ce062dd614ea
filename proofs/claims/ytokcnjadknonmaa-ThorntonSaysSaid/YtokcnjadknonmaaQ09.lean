/- Contracts of the program's functions and plain laws, part 9: they hold for all arguments. -/
import Derived.Test.YtokcnjadknonmaaQ08
import Derived.Test.YtokcnjadknonmaaQ03
/- Contracts of the reference's scalars (9): Div, D, MulDiv. -/
namespace Go.Proofs.Ytokcnjadknonmaa
open Go.RowKit
set_option maxRecDepth 100000
theorem rdiv_sg (a b : Int) (hb : b ≠ 0) : rdiv a b = sv (sg2 a b) (dvM a.natAbs b.natAbs) := by
  have hd : 0 < b.natAbs := by omega
  have e := rdiv_dv false a.natAbs b.natAbs hd
  have h0 : dvM 0 b.natAbs = 0 := by unfold dvM; rw [Nat.zero_mod, Nat.zero_div, if_neg (by omega)]
  unfold rdiv
  have e2 : (((2 * a.natAbs + b.natAbs) / (2 * b.natAbs) : Nat) : Int) = (dvM a.natAbs b.natAbs : Int) := by
    have := e
    unfold rdiv sv at this
    simp only [Bool.false_eq_true, if_false, Int.natAbs_natCast] at this
    rw [if_pos (by simp; omega)] at this
    exact this
  rw [e2]
  by_cases ha0 : a = 0
  · subst ha0
    simp only [Int.natAbs_zero]
    rw [h0, sv_0]
    simp
  · unfold sv sg2
    by_cases h1 : a < 0 <;> by_cases h2 : b < 0
    · simp only [if_pos h1, if_pos h2, Bool.false_eq_true, if_false]
      rw [if_pos (by simp; omega)]
    · simp only [if_pos h1, if_neg h2, if_true]
      rw [if_neg (by simp; omega)]
    · simp only [if_neg h1, if_pos h2, if_true]
      rw [if_neg (by simp; omega)]
    · simp only [if_neg h1, if_neg h2, Bool.false_eq_true, if_false]
      rw [if_pos (by simp; omega)]
theorem sg2_pow (x y : Int) (s : Nat) : sg2 (x * 2 ^ s) y = sg2 x y := by
  have hp : (0 : Int) < 2 ^ s := Int.pow_pos (by decide)
  have : x * 2 ^ s < 0 ↔ x < 0 := by
    constructor
    · intro h; by_cases h1 : x < 0; exact h1
      have := Int.mul_nonneg (Int.not_lt.mp h1) (Int.le_of_lt hp); omega
    · intro h; exact Int.mul_neg_of_neg_of_pos h hp
  unfold sg2
  simp only [this]
set_option maxHeartbeats 1000000 in
theorem rdivs30 (c : Addr) (h : Bool) (a b x y : Int) (X Y M : Nat) (m bx b_y : Bool) (w : World) (hc : w.cell? c = some (.bool h)) (hf : w.frozen? c = false)
    (hx : satV a = x) (hy : satV b = y) (hX : x.natAbs = X) (hY : y.natAbs = Y) (hM : X * 1073741824 = M) (dx : decide (x < 0) = bx) (dy : decide (y < 0) = b_y) (hm : (!bx == b_y) = m) (y0 : (y == 0) = false) :
    Calls Try.prog 50 #[.pointer (some c), .int .i64 a, .int .i64 b, .int .i64 30] w fun e w' => e = .returned (.int .i64 (satV (sv m (dvM M Y)))) ∧ Upd c (h || satH a || satH b || satH (sv m (dvM M Y))) w w' := by
  have hcb := World.block_lt_of_cell? w c hc
  have bdx := satV_bd a
  have bdy := satV_bd b
  rw [hx] at bdx
  rw [hy] at bdy
  have y1 : 0 < Y := by have : y ≠ 0 := by simpa using y0
                        omega
  have e1 : (X : Int) / 17179869184 = hi64 (M : Int) := by rw [← hM]; unfold hi64; omega
  have e2 : IntKind.u64.wrap ((X : Int) * 1073741824) = lo64 (M : Int) := by rw [← hM, IntKind.wrap_u64]; unfold lo64; omega
  have SX := Lib.hid (fun w => rsize_any x w bdx.1 bdx.2)
  have SY := Lib.hid (fun w => rsize_any y w bdy.1 bdy.2)
  rw [hX] at SX
  rw [hY] at SY
  have DV := Lib.hid (fun w => rdivided_any M Y m w (by omega) y1 (by omega))
  have c1 : (w.setCell c (.bool (h || satH a))).cell? c = some (.bool (h || satH a)) := World.cell?_setCell_same _ _ _ hc
  have c2 : ((w.setCell c (.bool (h || satH a))).setCell c (.bool (h || satH a || satH b))).cell? c = some (.bool (h || satH a || satH b)) := World.cell?_setCell_same _ _ _ c1
  have C2 := Lib.hid c2
  clear c2 hX hY hM bdx bdy y1
  go_enter Try.func50, Try.ntmps50
  go_upto_region 2 with (refine (rsat_any c h a _ hc hf).mono ?_; rintro e w' ⟨rfl, rfl⟩)
  go_upto_region 3 with (refine (rsat_any c _ b _ c1 (by simp [hf])).mono ?_; rintro e w' ⟨rfl, rfl⟩)
  have HW := Lib.hid (Upd.trans (Upd.set c (h || satH a) w) (Upd.set c (h || satH a || satH b) _))
  have F2 : ((w.setCell c (.bool (h || satH a))).setCell c (.bool (h || satH a || satH b))).frozen? c = false := by simp [hf]
  have Z2 := Upd.size HW.out
  obtain ⟨w2, hw2⟩ : ∃ w2, (w.setCell c (.bool (h || satH a))).setCell c (.bool (h || satH a || satH b)) = w2 := ⟨_, rfl⟩
  rw [hw2] at HW C2 F2 Z2 ⊢
  clear hw2 c1 hc hf
  go_upto_region 17 with (refine (SX.out _).mono ?_; rintro e w' ⟨rfl, rfl⟩)
  have k1 : (w2.alloc (.cells #[.int .u64 (hi64 (M : Int)), .int .u64 (lo64 (M : Int)), .bool m] 103)).cell? c = some (.bool (h || satH a || satH b)) := by rw [World.cell?_alloc_lt _ _ _ (by omega)]; exact C2.out
  have k2 : (w2.alloc (.cells #[.int .u64 (hi64 (M : Int)), .int .u64 (lo64 (M : Int)), .bool m] 103)).frozen? c = false := by rw [frozen?_alloc_cells]; exact F2
  have D3 := Wid.new w2 (M : Int) m
  have B3 : Below w2.heap.size w2 (w2.alloc (.cells #[.int .u64 (hi64 (M : Int)), .int .u64 (lo64 (M : Int)), .bool m] 103)) := by (repeat (first | with_reducible exact Below.refl _ _ | with_reducible apply Below.drew | (with_reducible refine below_drewN ?_ _) | (with_reducible refine Below.alloc ?_ (by (try simp) <;> omega) _) | (with_reducible refine Below.setCell ?_ (by (try simp) <;> omega) _)))
  have z3 := D3.lt
  generalize w2.alloc (.cells #[.int .u64 (hi64 (M : Int)), .int .u64 (lo64 (M : Int)), .bool m] 103) = w3 at *
  have B3 := Lib.hid B3
  obtain ⟨⟨d0, d1, d2⟩, _⟩ := D3.c
  have nc : ∀ o, c ≠ ⟨w2.heap.size, o, none⟩ := fun o e => by rw [e] at hcb; simp at hcb; omega
  clear C2 F2 D3
  refine wp_region_M (fun w' => w'.cell? ⟨w2.heap.size, 0, none⟩ = some (.int .u64 (hi64 (M : Int))) ∧ w'.cell? ⟨w2.heap.size, 1, none⟩ = some (.int .u64 (lo64 (M : Int))) ∧ w'.cell? ⟨w2.heap.size, 2, none⟩ = some (.bool m)) 6 (by kernel_rfl) ?_ (fun hHeld => ?_)
  · exact ⟨d0, d1, d2⟩
  refine wpAnyM_take 0 (v := ?_) rfl (by kernel_rfl) (fun _ _ _ h => h) (Or.inl ⟨by rfl, ?_⟩) (by assumption) ?_
  rotate_left
  · (intro wx hSw; (try dsimp only at hSw); go_simp; (try with_reducible rfl))
  (try simp only [Act.put, List.setIfInBounds_toArray, List.set_cons_zero, List.set_cons_succ])
  refine wpAnyM_take 1 (v := ?_) rfl (by kernel_rfl) (fun _ _ _ h => h) (Or.inl ⟨by rfl, ?_⟩) (by assumption) ?_
  rotate_left
  · (intro wx hSw; (try dsimp only at hSw); go_simp; (try with_reducible rfl))
  (try simp only [Act.put, List.setIfInBounds_toArray, List.set_cons_zero, List.set_cons_succ])
  refine wpAnyM_take 2 (v := ?_) rfl (by kernel_rfl) (fun _ _ _ h => h) (Or.inl ⟨by rfl, ?_⟩) (by assumption) ?_
  rotate_left
  · (intro wx hSw; (try dsimp only at hSw); go_simp; (try with_reducible rfl))
  (try simp only [Act.put, List.setIfInBounds_toArray, List.set_cons_zero, List.set_cons_succ])
  refine wpAnyM_oneS 3 rfl (by kernel_rfl) (fun K hK => ?_)
  go_simp
  (refine (SY.out _).mono ?_; rintro e w' ⟨rfl, rfl⟩)
  (try dsimp only)
  (try simp only [Act.put, List.setIfInBounds_toArray, List.set_cons_zero, List.set_cons_succ])
  clear hHeld
  refine hK.out _ _ ?_ (fun hHeld => ?_)
  · exact ⟨d0, d1, d2⟩
  clear hK K
  (try simp only [Act.put, List.setIfInBounds_toArray, List.set_cons_zero, List.set_cons_succ])
  refine wpAnyM_oneS 4 rfl (by kernel_rfl) (fun K hK => ?_)
  go_simp
  (refine (DV.out _).mono ?_; rintro e w4 ⟨rfl, hb4⟩)
  (try dsimp only)
  (try simp only [Act.put, List.setIfInBounds_toArray, List.set_cons_zero, List.set_cons_succ])
  clear hHeld
  refine hK.out _ _ ?_ (fun hHeld => ?_)
  · exact ⟨(hb4.cell z3).trans d0, (hb4.cell z3).trans d1, (hb4.cell z3).trans d2⟩
  clear hK K
  (try simp only [Act.put, List.setIfInBounds_toArray, List.set_cons_zero, List.set_cons_succ])
  refine wpAnyM_oneS 5 rfl (by kernel_rfl) (fun K hK => ?_)
  go_simp
  (refine (rend2_any c _ (dvM M Y) m _ ((hb4.cell (by (try simp); omega)).trans (by simpa using k1)) ((hb4.frozen (by (try simp); omega)).trans (by simpa using k2))).mono ?_; rintro e w5 ⟨rfl, hu5⟩)
  (try dsimp only)
  (try simp only [Act.put, List.setIfInBounds_toArray, List.set_cons_zero, List.set_cons_succ])
  clear hHeld
  refine hK.out _ _ ?_ (fun hHeld => ?_)
  · have z4 : w2.heap.size < w4.heap.size := Nat.lt_of_lt_of_le z3 hb4.size; exact ⟨(hu5.cell z4 (nc 0)).trans ((hb4.cell z3).trans d0), (hu5.cell z4 (nc 1)).trans ((hb4.cell z3).trans d1), (hu5.cell z4 (nc 2)).trans ((hb4.cell z3).trans d2)⟩
  clear hK K
  (try simp only [Act.put, List.setIfInBounds_toArray, List.set_cons_zero, List.set_cons_succ])
  refine wpAnyM_one 6 rfl (by kernel_rfl) (fun K hK => ?_)
  go_simp
  refine hK.out _ _ (.inl (by kernel_rfl)) (fun _ => ?_)
  clear hK K
  (try simp only [Act.put, List.setIfInBounds_toArray, List.set_cons_zero, List.set_cons_succ])
  refine wpAnyM_done (by kernel_rfl) ?_ _
  go_wp2_with fail
  go_ret
  refine ⟨rfl, ?_⟩
  exact HW.out.trans (Upd.after B3.out (Upd.after (Below.drew (Below.refl _ _)) (Upd.after hb4 hu5)))
set_option maxHeartbeats 1000000 in
theorem rdivs44 (c : Addr) (h : Bool) (a b x y : Int) (X Y M : Nat) (m bx b_y : Bool) (w : World) (hc : w.cell? c = some (.bool h)) (hf : w.frozen? c = false)
    (hx : satV a = x) (hy : satV b = y) (hX : x.natAbs = X) (hY : y.natAbs = Y) (hM : X * 17592186044416 = M) (dx : decide (x < 0) = bx) (dy : decide (y < 0) = b_y) (hm : (!bx == b_y) = m) (y0 : (y == 0) = false) :
    Calls Try.prog 50 #[.pointer (some c), .int .i64 a, .int .i64 b, .int .i64 44] w fun e w' => e = .returned (.int .i64 (satV (sv m (dvM M Y)))) ∧ Upd c (h || satH a || satH b || satH (sv m (dvM M Y))) w w' := by
  have hcb := World.block_lt_of_cell? w c hc
  have bdx := satV_bd a
  have bdy := satV_bd b
  rw [hx] at bdx
  rw [hy] at bdy
  have y1 : 0 < Y := by have : y ≠ 0 := by simpa using y0
                        omega
  have e1 : (X : Int) / 1048576 = hi64 (M : Int) := by rw [← hM]; unfold hi64; omega
  have e2 : IntKind.u64.wrap ((X : Int) * 17592186044416) = lo64 (M : Int) := by rw [← hM, IntKind.wrap_u64]; unfold lo64; omega
  have SX := Lib.hid (fun w => rsize_any x w bdx.1 bdx.2)
  have SY := Lib.hid (fun w => rsize_any y w bdy.1 bdy.2)
  rw [hX] at SX
  rw [hY] at SY
  have DV := Lib.hid (fun w => rdivided_any M Y m w (by omega) y1 (by omega))
  have c1 : (w.setCell c (.bool (h || satH a))).cell? c = some (.bool (h || satH a)) := World.cell?_setCell_same _ _ _ hc
  have c2 : ((w.setCell c (.bool (h || satH a))).setCell c (.bool (h || satH a || satH b))).cell? c = some (.bool (h || satH a || satH b)) := World.cell?_setCell_same _ _ _ c1
  have C2 := Lib.hid c2
  clear c2 hX hY hM bdx bdy y1
  go_enter Try.func50, Try.ntmps50
  go_upto_region 2 with (refine (rsat_any c h a _ hc hf).mono ?_; rintro e w' ⟨rfl, rfl⟩)
  go_upto_region 3 with (refine (rsat_any c _ b _ c1 (by simp [hf])).mono ?_; rintro e w' ⟨rfl, rfl⟩)
  have HW := Lib.hid (Upd.trans (Upd.set c (h || satH a) w) (Upd.set c (h || satH a || satH b) _))
  have F2 : ((w.setCell c (.bool (h || satH a))).setCell c (.bool (h || satH a || satH b))).frozen? c = false := by simp [hf]
  have Z2 := Upd.size HW.out
  obtain ⟨w2, hw2⟩ : ∃ w2, (w.setCell c (.bool (h || satH a))).setCell c (.bool (h || satH a || satH b)) = w2 := ⟨_, rfl⟩
  rw [hw2] at HW C2 F2 Z2 ⊢
  clear hw2 c1 hc hf
  go_upto_region 17 with (refine (SX.out _).mono ?_; rintro e w' ⟨rfl, rfl⟩)
  have k1 : (w2.alloc (.cells #[.int .u64 (hi64 (M : Int)), .int .u64 (lo64 (M : Int)), .bool m] 103)).cell? c = some (.bool (h || satH a || satH b)) := by rw [World.cell?_alloc_lt _ _ _ (by omega)]; exact C2.out
  have k2 : (w2.alloc (.cells #[.int .u64 (hi64 (M : Int)), .int .u64 (lo64 (M : Int)), .bool m] 103)).frozen? c = false := by rw [frozen?_alloc_cells]; exact F2
  have D3 := Wid.new w2 (M : Int) m
  have B3 : Below w2.heap.size w2 (w2.alloc (.cells #[.int .u64 (hi64 (M : Int)), .int .u64 (lo64 (M : Int)), .bool m] 103)) := by (repeat (first | with_reducible exact Below.refl _ _ | with_reducible apply Below.drew | (with_reducible refine below_drewN ?_ _) | (with_reducible refine Below.alloc ?_ (by (try simp) <;> omega) _) | (with_reducible refine Below.setCell ?_ (by (try simp) <;> omega) _)))
  have z3 := D3.lt
  generalize w2.alloc (.cells #[.int .u64 (hi64 (M : Int)), .int .u64 (lo64 (M : Int)), .bool m] 103) = w3 at *
  have B3 := Lib.hid B3
  obtain ⟨⟨d0, d1, d2⟩, _⟩ := D3.c
  have nc : ∀ o, c ≠ ⟨w2.heap.size, o, none⟩ := fun o e => by rw [e] at hcb; simp at hcb; omega
  clear C2 F2 D3
  refine wp_region_M (fun w' => w'.cell? ⟨w2.heap.size, 0, none⟩ = some (.int .u64 (hi64 (M : Int))) ∧ w'.cell? ⟨w2.heap.size, 1, none⟩ = some (.int .u64 (lo64 (M : Int))) ∧ w'.cell? ⟨w2.heap.size, 2, none⟩ = some (.bool m)) 6 (by kernel_rfl) ?_ (fun hHeld => ?_)
  · exact ⟨d0, d1, d2⟩
  refine wpAnyM_take 0 (v := ?_) rfl (by kernel_rfl) (fun _ _ _ h => h) (Or.inl ⟨by rfl, ?_⟩) (by assumption) ?_
  rotate_left
  · (intro wx hSw; (try dsimp only at hSw); go_simp; (try with_reducible rfl))
  (try simp only [Act.put, List.setIfInBounds_toArray, List.set_cons_zero, List.set_cons_succ])
  refine wpAnyM_take 1 (v := ?_) rfl (by kernel_rfl) (fun _ _ _ h => h) (Or.inl ⟨by rfl, ?_⟩) (by assumption) ?_
  rotate_left
  · (intro wx hSw; (try dsimp only at hSw); go_simp; (try with_reducible rfl))
  (try simp only [Act.put, List.setIfInBounds_toArray, List.set_cons_zero, List.set_cons_succ])
  refine wpAnyM_take 2 (v := ?_) rfl (by kernel_rfl) (fun _ _ _ h => h) (Or.inl ⟨by rfl, ?_⟩) (by assumption) ?_
  rotate_left
  · (intro wx hSw; (try dsimp only at hSw); go_simp; (try with_reducible rfl))
  (try simp only [Act.put, List.setIfInBounds_toArray, List.set_cons_zero, List.set_cons_succ])
  refine wpAnyM_oneS 3 rfl (by kernel_rfl) (fun K hK => ?_)
  go_simp
  (refine (SY.out _).mono ?_; rintro e w' ⟨rfl, rfl⟩)
  (try dsimp only)
  (try simp only [Act.put, List.setIfInBounds_toArray, List.set_cons_zero, List.set_cons_succ])
  clear hHeld
  refine hK.out _ _ ?_ (fun hHeld => ?_)
  · exact ⟨d0, d1, d2⟩
  clear hK K
  (try simp only [Act.put, List.setIfInBounds_toArray, List.set_cons_zero, List.set_cons_succ])
  refine wpAnyM_oneS 4 rfl (by kernel_rfl) (fun K hK => ?_)
  go_simp
  (refine (DV.out _).mono ?_; rintro e w4 ⟨rfl, hb4⟩)
  (try dsimp only)
  (try simp only [Act.put, List.setIfInBounds_toArray, List.set_cons_zero, List.set_cons_succ])
  clear hHeld
  refine hK.out _ _ ?_ (fun hHeld => ?_)
  · exact ⟨(hb4.cell z3).trans d0, (hb4.cell z3).trans d1, (hb4.cell z3).trans d2⟩
  clear hK K
  (try simp only [Act.put, List.setIfInBounds_toArray, List.set_cons_zero, List.set_cons_succ])
  refine wpAnyM_oneS 5 rfl (by kernel_rfl) (fun K hK => ?_)
  go_simp
  (refine (rend2_any c _ (dvM M Y) m _ ((hb4.cell (by (try simp); omega)).trans (by simpa using k1)) ((hb4.frozen (by (try simp); omega)).trans (by simpa using k2))).mono ?_; rintro e w5 ⟨rfl, hu5⟩)
  (try dsimp only)
  (try simp only [Act.put, List.setIfInBounds_toArray, List.set_cons_zero, List.set_cons_succ])
  clear hHeld
  refine hK.out _ _ ?_ (fun hHeld => ?_)
  · have z4 : w2.heap.size < w4.heap.size := Nat.lt_of_lt_of_le z3 hb4.size; exact ⟨(hu5.cell z4 (nc 0)).trans ((hb4.cell z3).trans d0), (hu5.cell z4 (nc 1)).trans ((hb4.cell z3).trans d1), (hu5.cell z4 (nc 2)).trans ((hb4.cell z3).trans d2)⟩
  clear hK K
  (try simp only [Act.put, List.setIfInBounds_toArray, List.set_cons_zero, List.set_cons_succ])
  refine wpAnyM_one 6 rfl (by kernel_rfl) (fun K hK => ?_)
  go_simp
  refine hK.out _ _ (.inl (by kernel_rfl)) (fun _ => ?_)
  clear hK K
  (try simp only [Act.put, List.setIfInBounds_toArray, List.set_cons_zero, List.set_cons_succ])
  refine wpAnyM_done (by kernel_rfl) ?_ _
  go_wp2_with fail
  go_ret
  refine ⟨rfl, ?_⟩
  exact HW.out.trans (Upd.after B3.out (Upd.after (Below.drew (Below.refl _ _)) (Upd.after hb4 hu5)))
set_option maxHeartbeats 2000000 in
theorem rdivs0 (c : Addr) (h : Bool) (a b s : Int) (w : World) (hc : w.cell? c = some (.bool h)) (hf : w.frozen? c = false) (hy : satV b = 0) :
    Calls Try.prog 50 #[.pointer (some c), .int .i64 a, .int .i64 b, .int .i64 s] w fun e w' =>
      e = .returned (.int .i64 (if satV a = 0 then 0 else if satV a < 0 then -1152921504606846976 else 1152921504606846976)) ∧ Upd c true w w' := by
  obtain ⟨x, hx⟩ : ∃ x, satV a = x := ⟨_, rfl⟩
  have c1 : (w.setCell c (.bool (h || satH a))).cell? c = some (.bool (h || satH a)) := World.cell?_setCell_same _ _ _ hc
  have c2 : ((w.setCell c (.bool (h || satH a))).setCell c (.bool (h || satH a || satH b))).cell? c = some (.bool (h || satH a || satH b)) := World.cell?_setCell_same _ _ _ c1
  have F2 : ((w.setCell c (.bool (h || satH a))).setCell c (.bool (h || satH a || satH b))).frozen? c = false := by simp [hf]
  have HV := Lib.hid (show ∀ v, (if x = 0 then 0 else if x < 0 then -1152921504606846976 else 1152921504606846976) = v → (if satV a = 0 then 0 else if satV a < 0 then -1152921504606846976 else 1152921504606846976) = v from fun v hv => by rw [hx]; exact hv)
  have C2 := Lib.hid c2
  have HF2 := Lib.hid F2
  clear c2 F2
  have HX := Lib.hid (show (0 < x ∨ x = 0 ∨ x < 0) by omega)
  rcases HX.out with g | g | g
  · have g1 : decide (0 < x) = true := by simpa using g
    rw [HV.out 1152921504606846976 (by rw [if_neg (by omega), if_neg (by omega)])]
    clear HX HV g
    go_enter Try.func50, Try.ntmps50
    go_upto_region 2 with (refine (rsat_any c h a _ hc hf).mono ?_; rintro e w' ⟨rfl, rfl⟩)
    go_upto_region 3 with (refine (rsat_any c _ b _ c1 (by simp [hf])).mono ?_; rintro e w' ⟨rfl, rfl⟩)
    have HW := Lib.hid (Upd.trans (Upd.trans (Upd.set c (h || satH a) w) (Upd.set c (h || satH a || satH b) _)) (Upd.set c true _))
    have c2 := C2.out
    have f2 := HF2.out
    clear C2 HF2 c1
    generalize (w.setCell c (.bool (h || satH a))).setCell c (.bool (h || satH a || satH b)) = w2 at *
    go_wp2_with fail
    go_ret
    exact ⟨rfl, HW.out⟩
  · subst g
    have g1 : decide ((0 : Int) < 0) = false := by decide
    rw [HV.out 0 (by rw [if_pos rfl])]
    clear HX HV
    go_enter Try.func50, Try.ntmps50
    go_upto_region 2 with (refine (rsat_any c h a _ hc hf).mono ?_; rintro e w' ⟨rfl, rfl⟩)
    go_upto_region 3 with (refine (rsat_any c _ b _ c1 (by simp [hf])).mono ?_; rintro e w' ⟨rfl, rfl⟩)
    have HW := Lib.hid (Upd.trans (Upd.trans (Upd.set c (h || satH a) w) (Upd.set c (h || satH a || satH b) _)) (Upd.set c true _))
    have c2 := C2.out
    have f2 := HF2.out
    clear C2 HF2 c1
    generalize (w.setCell c (.bool (h || satH a))).setCell c (.bool (h || satH a || satH b)) = w2 at *
    go_wp2_with fail
    go_ret
    exact ⟨rfl, HW.out⟩
  · have g1 : decide (0 < x) = false := by simp; omega
    have g2 : decide (x < 0) = true := by simpa using g
    rw [HV.out (-1152921504606846976) (by rw [if_neg (by omega), if_pos g])]
    clear HX HV g
    go_enter Try.func50, Try.ntmps50
    go_upto_region 2 with (refine (rsat_any c h a _ hc hf).mono ?_; rintro e w' ⟨rfl, rfl⟩)
    go_upto_region 3 with (refine (rsat_any c _ b _ c1 (by simp [hf])).mono ?_; rintro e w' ⟨rfl, rfl⟩)
    have HW := Lib.hid (Upd.trans (Upd.trans (Upd.set c (h || satH a) w) (Upd.set c (h || satH a || satH b) _)) (Upd.set c true _))
    have c2 := C2.out
    have f2 := HF2.out
    clear C2 HF2 c1
    generalize (w.setCell c (.bool (h || satH a))).setCell c (.bool (h || satH a || satH b)) = w2 at *
    go_wp2_with fail
    go_ret
    exact ⟨rfl, HW.out⟩
theorem dv_fact (s : Nat) (x y : Int) (X M P : Nat) (hX : x.natAbs = X) (hp : 2 ^ s = P) (hM : X * P = M) (hy : y ≠ 0) : rdiv (x * 2 ^ s) y = sv (sg2 x y) (dvM M y.natAbs) := by
  rw [rdiv_sg _ _ hy, sg2_pow]
  congr 2
  rw [Int.natAbs_mul, hX, ← hM, ← hp]
  congr 1
theorem sg2_ne (x y : Int) : (!decide (x < 0) == decide (y < 0)) = sg2 x y := by
  unfold sg2
  by_cases h1 : x < 0 <;> by_cases h2 : y < 0 <;> simp [h1, h2]
theorem rdiv30_any (c : Addr) (h : Bool) (a b : Int) (w : World) (hc : w.cell? c = some (.bool h)) (hf : w.frozen? c = false) :
    Calls Try.prog 50 #[.pointer (some c), .int .i64 a, .int .i64 b, .int .i64 30] w fun e w' => e = .returned (.int .i64 (divV a b 30)) ∧ Upd c (h || divH a b 30) w w' := by
  by_cases hy : satV b = 0
  · have e2 : (h || divH a b 30) = true := by simp [divH, byH, hy]
    have hp : (0 : Int) < 2 ^ 30 := by decide
    have e1 : divV a b 30 = (if satV a = 0 then 0 else if satV a < 0 then -1152921504606846976 else 1152921504606846976) := by
      unfold divV byV
      rw [if_neg (by decide), if_pos hy]
      rw [show ((30 : Int).toNat) = 30 from rfl]
      generalize satV a = x
      have k : (2 : Int) ^ 30 = 1073741824 := by decide
      rw [k]
      by_cases h0 : x = 0
      · rw [if_pos (by omega), if_pos h0]
      · rw [if_neg (by omega), if_neg h0]
        by_cases h1 : x < 0
        · rw [if_pos (by omega), if_pos h1]
        · rw [if_neg (by omega), if_neg h1]
    rw [e1, e2]
    exact rdivs0 c h a b 30 w hc hf hy
  · have k := dv_fact 30 (satV a) (satV b) _ _ 1073741824 rfl (by decide) rfl hy
    have e1 : divV a b 30 = satV (sv (sg2 (satV a) (satV b)) (dvM ((satV a).natAbs * 1073741824) (satV b).natAbs)) := by
      rw [← k]; unfold divV byV
      rw [if_neg (by decide), if_neg hy]; rfl
    have e2 : (h || divH a b 30) = (h || satH a || satH b || satH (sv (sg2 (satV a) (satV b)) (dvM ((satV a).natAbs * 1073741824) (satV b).natAbs))) := by
      rw [← k]; unfold divH byH
      rw [show decide ((30 : Int) < 0 ∨ 66 < (30 : Int)) = false by decide, show decide (satV b = 0) = false by simpa using hy]
      simp only [Bool.false_or, Bool.or_assoc]; rfl
    rw [e1, e2]
    exact rdivs30 c h a b _ _ _ _ _ _ _ _ w hc hf rfl rfl rfl rfl rfl rfl rfl (sg2_ne _ _) (by simpa using hy)
theorem rdiv44_any (c : Addr) (h : Bool) (a b : Int) (w : World) (hc : w.cell? c = some (.bool h)) (hf : w.frozen? c = false) :
    Calls Try.prog 50 #[.pointer (some c), .int .i64 a, .int .i64 b, .int .i64 44] w fun e w' => e = .returned (.int .i64 (divV a b 44)) ∧ Upd c (h || divH a b 44) w w' := by
  by_cases hy : satV b = 0
  · have e2 : (h || divH a b 44) = true := by simp [divH, byH, hy]
    have hp : (0 : Int) < 2 ^ 44 := by decide
    have e1 : divV a b 44 = (if satV a = 0 then 0 else if satV a < 0 then -1152921504606846976 else 1152921504606846976) := by
      unfold divV byV
      rw [if_neg (by decide), if_pos hy]
      rw [show ((44 : Int).toNat) = 44 from rfl]
      generalize satV a = x
      have k : (2 : Int) ^ 44 = 17592186044416 := by decide
      rw [k]
      by_cases h0 : x = 0
      · rw [if_pos (by omega), if_pos h0]
      · rw [if_neg (by omega), if_neg h0]
        by_cases h1 : x < 0
        · rw [if_pos (by omega), if_pos h1]
        · rw [if_neg (by omega), if_neg h1]
    rw [e1, e2]
    exact rdivs0 c h a b 44 w hc hf hy
  · have k := dv_fact 44 (satV a) (satV b) _ _ 17592186044416 rfl (by decide) rfl hy
    have e1 : divV a b 44 = satV (sv (sg2 (satV a) (satV b)) (dvM ((satV a).natAbs * 17592186044416) (satV b).natAbs)) := by
      rw [← k]; unfold divV byV
      rw [if_neg (by decide), if_neg hy]; rfl
    have e2 : (h || divH a b 44) = (h || satH a || satH b || satH (sv (sg2 (satV a) (satV b)) (dvM ((satV a).natAbs * 17592186044416) (satV b).natAbs))) := by
      rw [← k]; unfold divH byH
      rw [show decide ((44 : Int) < 0 ∨ 66 < (44 : Int)) = false by decide, show decide (satV b = 0) = false by simpa using hy]
      simp only [Bool.false_or, Bool.or_assoc]; rfl
    rw [e1, e2]
    exact rdivs44 c h a b _ _ _ _ _ _ _ _ w hc hf rfl rfl rfl rfl rfl rfl rfl (sg2_ne _ _) (by simpa using hy)
theorem rd_any (c : Addr) (h : Bool) (a b : Int) (w : World) (hc : w.cell? c = some (.bool h)) (hf : w.frozen? c = false) :
    Calls Try.prog 41 #[.pointer (some c), .int .i64 a, .int .i64 b] w fun e w' => e = .returned (.int .i64 (divV a b 30)) ∧ Upd c (h || divH a b 30) w w' := by
  go_enter Try.func41, Try.ntmps41
  go_wp2_with fail
  refine (rdiv30_any c h a b _ hc hf).mono ?_; rintro e w1 ⟨rfl, hu⟩
  go_wp2_with fail
  go_ret
  exact ⟨rfl, hu⟩
end Go.Proofs.Ytokcnjadknonmaa
/- Contracts of the reference's scalars (10): MulDiv. -/
namespace Go.Proofs.Ytokcnjadknonmaa
open Go.RowKit
set_option maxRecDepth 100000
theorem Wid.set2 {w : World} {b : Nat} {M : Int} {m : Bool} (h : Wid w b M m) (n : Bool) : Wid (w.setCell ⟨b, 2, none⟩ (.bool n)) b M n :=
  heap_setCell_same w b 2 _ _ (.bool n) h
set_option maxHeartbeats 2000000 in
theorem rmdS (c : Addr) (h : Bool) (a b d x y z : Int) (P Z : Nat) (m bz n : Bool) (w : World) (hc : w.cell? c = some (.bool h)) (hf : w.frozen? c = false)
    (hx : satV a = x) (hy : satV b = y) (hz : satV d = z) (hZ : z.natAbs = Z) (hP : P ≤ 1329227995784915872903807060280344576) (dz : decide (z < 0) = bz) (hn : (!m == bz) = n) (z0 : (z == 0) = false)
    (hm : ∀ w, Calls Try.prog 66 #[.int .i64 x, .int .i64 y] w fun e w' => e = .returned (.agg #[.int .u64 (hi64 (P : Int)), .int .u64 (lo64 (P : Int)), .bool m]) ∧ Below w.heap.size w w') :
    Calls Try.prog 49 #[.pointer (some c), .int .i64 a, .int .i64 b, .int .i64 d] w fun e w' => e = .returned (.int .i64 (satV (sv n (dvM P Z)))) ∧ Upd c (h || satH a || satH b || satH d || satH (sv n (dvM P Z))) w w' := by
  have hcb := World.block_lt_of_cell? w c hc
  have bdz := satV_bd d
  rw [hz] at bdz
  have y1 : 0 < Z := by have : z ≠ 0 := by simpa using z0
                        omega
  have HM := Lib.hid hm
  have SZ := Lib.hid (fun w => rsize_any z w bdz.1 bdz.2)
  rw [hZ] at SZ
  have DV := Lib.hid (fun w => rdivided_any P Z n w (by omega) y1 (by omega))
  have c1 : (w.setCell c (.bool (h || satH a))).cell? c = some (.bool (h || satH a)) := World.cell?_setCell_same _ _ _ hc
  have c2 : ((w.setCell c (.bool (h || satH a))).setCell c (.bool (h || satH a || satH b))).cell? c = some (.bool (h || satH a || satH b)) := World.cell?_setCell_same _ _ _ c1
  have C2 := Lib.hid c2
  clear c2 hZ hP bdz y1 hm
  go_enter Try.func49, Try.ntmps49
  go_wp2_with fail
  refine (rsat_any c h a _ hc hf).mono ?_; rintro e w' ⟨rfl, rfl⟩
  go_wp2_with fail
  refine (rsat_any c _ b _ c1 (by simp [hf])).mono ?_; rintro e w' ⟨rfl, rfl⟩
  have HW := Lib.hid (Upd.trans (Upd.set c (h || satH a) w) (Upd.set c (h || satH a || satH b) _))
  have F2 : ((w.setCell c (.bool (h || satH a))).setCell c (.bool (h || satH a || satH b))).frozen? c = false := by simp [hf]
  have Z2 := Upd.size HW.out
  obtain ⟨w2, hw2⟩ : ∃ w2, (w.setCell c (.bool (h || satH a))).setCell c (.bool (h || satH a || satH b)) = w2 := ⟨_, rfl⟩
  rw [hw2] at HW C2 F2 Z2 ⊢
  clear hw2 c1 hc hf
  go_wp2_with fail
  refine (HM.out _).mono ?_; rintro e w3 ⟨rfl, hb3⟩
  have k1 : w3.cell? c = some (.bool (h || satH a || satH b)) := (hb3.cell (by omega)).trans C2.out
  have k2 : w3.frozen? c = false := (hb3.frozen (by omega)).trans F2
  have hs3 := hb3.size
  have HB3 := Lib.hid hb3
  clear hb3 C2 F2
  have k3 : ∀ o, (w3.alloc o).cell? c = some (.bool (h || satH a || satH b)) := fun o => by rw [World.cell?_alloc_lt _ _ _ (by omega)]; exact k1
  have k4 : ∀ cs t, (w3.alloc (.cells cs t)).frozen? c = false := fun cs t => by rw [frozen?_alloc_cells]; exact k2
  have D3 := Lib.hid (Wid.new w3 (P : Int) m)
  have B3 : Hid (Below w3.heap.size w3 (w3.alloc (.cells #[.int .u64 (hi64 (P : Int)), .int .u64 (lo64 (P : Int)), .bool m] 103))) := Lib.hid (by (repeat (first | with_reducible exact Below.refl _ _ | with_reducible apply Below.drew | (with_reducible refine below_drewN ?_ _) | (with_reducible refine Below.alloc ?_ (by (try simp) <;> omega) _) | (with_reducible refine Below.setCell ?_ (by (try simp) <;> omega) _))))
  go_upto_region 2 with fail
  have k5 := k3 (.cells #[.int .u64 (hi64 (P : Int)), .int .u64 (lo64 (P : Int)), .bool m] 103)
  have k6 := k4 #[.int .u64 (hi64 (P : Int)), .int .u64 (lo64 (P : Int)), .bool m] 103
  clear k1 k2 k3 k4
  obtain ⟨pb, hpb⟩ : ∃ pb, w3.heap.size = pb := ⟨_, rfl⟩
  generalize w3.alloc (.cells #[.int .u64 (hi64 (P : Int)), .int .u64 (lo64 (P : Int)), .bool m] 103) = w4 at *
  rw [hpb] at D3 ⊢
  have hcp : c.block < pb := by omega
  have hnc : pb ≠ c.block := by omega
  go_upto_region 3 with (refine (rsat_any c _ d _ k5 k6).mono ?_; rintro e w' ⟨rfl, rfl⟩)
  have c5 : (w4.setCell c (.bool (h || satH a || satH b || satH d))).cell? c = some (.bool (h || satH a || satH b || satH d)) := World.cell?_setCell_same _ _ _ k5
  have f5 : (w4.setCell c (.bool (h || satH a || satH b || satH d))).frozen? c = false := by simp [k6]
  have D5 := Lib.hid (D3.out.other (a := c) hnc (.bool (h || satH a || satH b || satH d)))
  have U5 := Lib.hid (Upd.set c (h || satH a || satH b || satH d) w4)
  have hs5 : w4.heap.size = (w4.setCell c (.bool (h || satH a || satH b || satH d))).heap.size := (setCell_size _ _ _).symm
  generalize w4.setCell c (.bool (h || satH a || satH b || satH d)) = w5 at *
  clear k5 k6 D3
  obtain ⟨⟨d0, d1, d2⟩, v0, v1, v2⟩ := D5.out.c
  go_upto_region 11 with fail
  have D6 := D5.out.set2 n
  have hwp : w.heap.size ≤ pb := by omega
  have B6 := Lib.hid (show Below w.heap.size w5 (w5.setCell ⟨pb, 2, none⟩ (.bool n)) from (Below.refl _ _).setCell hwp _)
  have k1 : (w5.setCell ⟨pb, 2, none⟩ (.bool n)).cell? c = some (.bool (h || satH a || satH b || satH d)) := (World.cell?_setCell_other _ _ _ _ (fun e => by rw [← e] at hcp; simp at hcp)).trans c5
  have k2 : (w5.setCell ⟨pb, 2, none⟩ (.bool n)).frozen? c = false := by simp [f5]
  have hs6 : w5.heap.size = (w5.setCell ⟨pb, 2, none⟩ (.bool n)).heap.size := (setCell_size _ _ _).symm
  clear D5 d0 d1 d2 v0 v1 v2 c5 f5
  generalize w5.setCell ⟨pb, 2, none⟩ (.bool n) = w6 at *
  have z6 := D6.lt
  obtain ⟨⟨d0, d1, d2⟩, _⟩ := D6.c
  have nc : ∀ o, c ≠ ⟨pb, o, none⟩ := fun o e => by rw [e] at hcp; simp at hcp
  refine wp_region_M (fun w' => w'.cell? ⟨pb, 0, none⟩ = some (.int .u64 (hi64 (P : Int))) ∧ w'.cell? ⟨pb, 1, none⟩ = some (.int .u64 (lo64 (P : Int))) ∧ w'.cell? ⟨pb, 2, none⟩ = some (.bool n)) 6 (by kernel_rfl) ?_ (fun hHeld => ?_)
  · exact ⟨d0, d1, d2⟩
  refine wpAnyM_take 0 (v := ?_) rfl (by kernel_rfl) (fun _ _ _ h => h) (Or.inl ⟨by rfl, ?_⟩) (by assumption) ?_
  rotate_left
  · (intro wx hSw; (try dsimp only at hSw); go_simp; (try with_reducible rfl))
  (try simp only [Act.put, List.setIfInBounds_toArray, List.set_cons_zero, List.set_cons_succ])
  refine wpAnyM_take 1 (v := ?_) rfl (by kernel_rfl) (fun _ _ _ h => h) (Or.inl ⟨by rfl, ?_⟩) (by assumption) ?_
  rotate_left
  · (intro wx hSw; (try dsimp only at hSw); go_simp; (try with_reducible rfl))
  (try simp only [Act.put, List.setIfInBounds_toArray, List.set_cons_zero, List.set_cons_succ])
  refine wpAnyM_take 2 (v := ?_) rfl (by kernel_rfl) (fun _ _ _ h => h) (Or.inl ⟨by rfl, ?_⟩) (by assumption) ?_
  rotate_left
  · (intro wx hSw; (try dsimp only at hSw); go_simp; (try with_reducible rfl))
  (try simp only [Act.put, List.setIfInBounds_toArray, List.set_cons_zero, List.set_cons_succ])
  refine wpAnyM_oneS 3 rfl (by kernel_rfl) (fun K hK => ?_)
  go_simp
  (refine (SZ.out _).mono ?_; rintro e w' ⟨rfl, rfl⟩)
  (try dsimp only)
  (try simp only [Act.put, List.setIfInBounds_toArray, List.set_cons_zero, List.set_cons_succ])
  clear hHeld
  refine hK.out _ _ ?_ (fun hHeld => ?_)
  · exact ⟨d0, d1, d2⟩
  clear hK K
  (try simp only [Act.put, List.setIfInBounds_toArray, List.set_cons_zero, List.set_cons_succ])
  refine wpAnyM_oneS 4 rfl (by kernel_rfl) (fun K hK => ?_)
  go_simp
  (refine (DV.out _).mono ?_; rintro e w7 ⟨rfl, hb7⟩)
  (try dsimp only)
  (try simp only [Act.put, List.setIfInBounds_toArray, List.set_cons_zero, List.set_cons_succ])
  clear hHeld
  refine hK.out _ _ ?_ (fun hHeld => ?_)
  · exact ⟨(hb7.cell z6).trans d0, (hb7.cell z6).trans d1, (hb7.cell z6).trans d2⟩
  clear hK K
  (try simp only [Act.put, List.setIfInBounds_toArray, List.set_cons_zero, List.set_cons_succ])
  refine wpAnyM_oneS 5 rfl (by kernel_rfl) (fun K hK => ?_)
  go_simp
  (refine (rend2_any c _ (dvM P Z) n _ ((hb7.cell (by (try simp); omega)).trans (by simpa using k1)) ((hb7.frozen (by (try simp); omega)).trans (by simpa using k2))).mono ?_; rintro e w8 ⟨rfl, hu8⟩)
  (try dsimp only)
  (try simp only [Act.put, List.setIfInBounds_toArray, List.set_cons_zero, List.set_cons_succ])
  clear hHeld
  refine hK.out _ _ ?_ (fun hHeld => ?_)
  · have z7 : pb < w7.heap.size := Nat.lt_of_lt_of_le z6 hb7.size; exact ⟨(hu8.cell z7 (nc 0)).trans ((hb7.cell z6).trans d0), (hu8.cell z7 (nc 1)).trans ((hb7.cell z6).trans d1), (hu8.cell z7 (nc 2)).trans ((hb7.cell z6).trans d2)⟩
  clear hK K
  (try simp only [Act.put, List.setIfInBounds_toArray, List.set_cons_zero, List.set_cons_succ])
  refine wpAnyM_one 6 rfl (by kernel_rfl) (fun K hK => ?_)
  go_simp
  refine hK.out _ _ (.inl (by kernel_rfl)) (fun _ => ?_)
  clear hK K
  (try simp only [Act.put, List.setIfInBounds_toArray, List.set_cons_zero, List.set_cons_succ])
  refine wpAnyM_done (by kernel_rfl) ?_ _
  go_wp2_with fail
  go_ret
  refine ⟨rfl, ?_⟩
  exact ((HW.out.trans (Upd.after HB3.out (Upd.after B3.out U5.out))).then' B6.out).trans (Upd.after (Below.drew (Below.refl _ _)) (Upd.after hb7 hu8))
set_option maxHeartbeats 4000000 in
theorem rmd0 (c : Addr) (h : Bool) (a b d x y v : Int) (P : Nat) (m : Bool) (w : World) (hc : w.cell? c = some (.bool h)) (hf : w.frozen? c = false)
    (hx : satV a = x) (hy : satV b = y) (hz : satV d = 0) (hv : (if P = 0 then 0 else if m = true then -1152921504606846976 else 1152921504606846976) = v)
    (hm : ∀ w, Calls Try.prog 66 #[.int .i64 x, .int .i64 y] w fun e w' => e = .returned (.agg #[.int .u64 (hi64 (P : Int)), .int .u64 (lo64 (P : Int)), .bool m]) ∧ Below w.heap.size w w') :
    Calls Try.prog 49 #[.pointer (some c), .int .i64 a, .int .i64 b, .int .i64 d] w fun e w' => e = .returned (.int .i64 v) ∧ Upd c true w w' := by
  have hcb := World.block_lt_of_cell? w c hc
  have HM := Lib.hid hm
  have c1 : (w.setCell c (.bool (h || satH a))).cell? c = some (.bool (h || satH a)) := World.cell?_setCell_same _ _ _ hc
  have c2 : ((w.setCell c (.bool (h || satH a))).setCell c (.bool (h || satH a || satH b))).cell? c = some (.bool (h || satH a || satH b)) := World.cell?_setCell_same _ _ _ c1
  have C2 := Lib.hid c2
  clear c2 hm
  have hcase : (P = 0 ∧ (hi64 (P : Int) == 0) = true ∧ (lo64 (P : Int) == 0) = true) ∨ (P ≠ 0 ∧ (hi64 (P : Int) == 0) = false) ∨ (P ≠ 0 ∧ (hi64 (P : Int) == 0) = true ∧ (lo64 (P : Int) == 0) = false) := by
    simp only [beq_iff_eq, beq_eq_false_iff_ne, ne_eq]
    unfold hi64 lo64
    omega
  have HV := Lib.hid hv
  clear hv
  cases m
  · rcases hcase with ⟨g0, g1, g2⟩ | ⟨g0, g1⟩ | ⟨g0, g1, g2⟩
    all_goals
      have HG := Lib.hid g0
      clear g0
      go_enter Try.func49, Try.ntmps49
      go_wp2_with fail
      refine (rsat_any c h a _ hc hf).mono ?_; rintro e w' ⟨rfl, rfl⟩
      go_wp2_with fail
      refine (rsat_any c _ b _ c1 (by simp [hf])).mono ?_; rintro e w' ⟨rfl, rfl⟩
      have HW := Lib.hid (Upd.trans (Upd.set c (h || satH a) w) (Upd.set c (h || satH a || satH b) _))
      have F2 : ((w.setCell c (.bool (h || satH a))).setCell c (.bool (h || satH a || satH b))).frozen? c = false := by simp [hf]
      have Z2 := Upd.size HW.out
      obtain ⟨w2, hw2⟩ : ∃ w2, (w.setCell c (.bool (h || satH a))).setCell c (.bool (h || satH a || satH b)) = w2 := ⟨_, rfl⟩
      rw [hw2] at HW C2 F2 Z2 ⊢
      clear hw2 c1 hc hf
      go_wp2_with fail
      refine (HM.out _).mono ?_; rintro e w3 ⟨rfl, hb3⟩
      have k1 : w3.cell? c = some (.bool (h || satH a || satH b)) := (hb3.cell (by omega)).trans C2.out
      have k2 : w3.frozen? c = false := (hb3.frozen (by omega)).trans F2
      have hs3 := hb3.size
      have HB3 := Lib.hid hb3
      clear hb3 C2 F2
      have k3 : ∀ o, (w3.alloc o).cell? c = some (.bool (h || satH a || satH b)) := fun o => by rw [World.cell?_alloc_lt _ _ _ (by omega)]; exact k1
      have k4 : ∀ cs t, (w3.alloc (.cells cs t)).frozen? c = false := fun cs t => by rw [frozen?_alloc_cells]; exact k2
      have D3 := Lib.hid (Wid.new w3 (P : Int) false)
      have B3 : Hid (Below w3.heap.size w3 (w3.alloc (.cells #[.int .u64 (hi64 (P : Int)), .int .u64 (lo64 (P : Int)), .bool false] 103))) := Lib.hid (by (repeat (first | with_reducible exact Below.refl _ _ | with_reducible apply Below.drew | (with_reducible refine below_drewN ?_ _) | (with_reducible refine Below.alloc ?_ (by (try simp) <;> omega) _) | (with_reducible refine Below.setCell ?_ (by (try simp) <;> omega) _))))
      go_upto_region 2 with fail
      have k5 := k3 (.cells #[.int .u64 (hi64 (P : Int)), .int .u64 (lo64 (P : Int)), .bool false] 103)
      have k6 := k4 #[.int .u64 (hi64 (P : Int)), .int .u64 (lo64 (P : Int)), .bool false] 103
      clear k1 k2 k3 k4
      obtain ⟨pb, hpb⟩ : ∃ pb, w3.heap.size = pb := ⟨_, rfl⟩
      generalize w3.alloc (.cells #[.int .u64 (hi64 (P : Int)), .int .u64 (lo64 (P : Int)), .bool false] 103) = w4 at *
      rw [hpb] at D3 ⊢
      have hcp : c.block < pb := by omega
      have hnc : pb ≠ c.block := by omega
      go_upto_region 3 with (refine (rsat_any c _ d _ k5 k6).mono ?_; rintro e w' ⟨rfl, rfl⟩)
      have c5 : (w4.setCell c (.bool (h || satH a || satH b || satH d))).cell? c = some (.bool (h || satH a || satH b || satH d)) := World.cell?_setCell_same _ _ _ k5
      have f5 : (w4.setCell c (.bool (h || satH a || satH b || satH d))).frozen? c = false := by simp [k6]
      have c6 := Lib.hid (Upd.set c true (w4.setCell c (.bool (h || satH a || satH b || satH d))))
      have D5 := Lib.hid (D3.out.other (a := c) hnc (.bool (h || satH a || satH b || satH d)))
      have U5 := Lib.hid (Upd.set c (h || satH a || satH b || satH d) w4)
      have hs5 : w4.heap.size = (w4.setCell c (.bool (h || satH a || satH b || satH d))).heap.size := (setCell_size _ _ _).symm
      generalize w4.setCell c (.bool (h || satH a || satH b || satH d)) = w5 at *
      clear k5 k6 D3
      obtain ⟨⟨d0, d1, d2⟩, v0, v1, v2⟩ := D5.out.c
      have D7 := D5.out.other (a := c) hnc (.bool true)
      go_upto_region 5 with fail
      have c7 := c6.out
      clear D5 d0 d1 d2 v0 v1 v2 c6
      generalize w5.setCell c (.bool true) = w6 at *
      have C7 := Lib.hid c7
      obtain ⟨⟨d0, d1, d2⟩, v0, v1, v2⟩ := D7.c
      clear c7
      go_wp2_with fail
      go_ret
      refine ⟨retI ?_, ?_⟩
      · have := HV.out
        first | (rw [if_pos HG.out] at this; exact this) | (rw [if_neg HG.out] at this; simpa using this)
      · exact (HW.out.trans (Upd.after HB3.out (Upd.after B3.out U5.out))).trans C7.out
  · rcases hcase with ⟨g0, g1, g2⟩ | ⟨g0, g1⟩ | ⟨g0, g1, g2⟩
    all_goals
      have HG := Lib.hid g0
      clear g0
      go_enter Try.func49, Try.ntmps49
      go_wp2_with fail
      refine (rsat_any c h a _ hc hf).mono ?_; rintro e w' ⟨rfl, rfl⟩
      go_wp2_with fail
      refine (rsat_any c _ b _ c1 (by simp [hf])).mono ?_; rintro e w' ⟨rfl, rfl⟩
      have HW := Lib.hid (Upd.trans (Upd.set c (h || satH a) w) (Upd.set c (h || satH a || satH b) _))
      have F2 : ((w.setCell c (.bool (h || satH a))).setCell c (.bool (h || satH a || satH b))).frozen? c = false := by simp [hf]
      have Z2 := Upd.size HW.out
      obtain ⟨w2, hw2⟩ : ∃ w2, (w.setCell c (.bool (h || satH a))).setCell c (.bool (h || satH a || satH b)) = w2 := ⟨_, rfl⟩
      rw [hw2] at HW C2 F2 Z2 ⊢
      clear hw2 c1 hc hf
      go_wp2_with fail
      refine (HM.out _).mono ?_; rintro e w3 ⟨rfl, hb3⟩
      have k1 : w3.cell? c = some (.bool (h || satH a || satH b)) := (hb3.cell (by omega)).trans C2.out
      have k2 : w3.frozen? c = false := (hb3.frozen (by omega)).trans F2
      have hs3 := hb3.size
      have HB3 := Lib.hid hb3
      clear hb3 C2 F2
      have k3 : ∀ o, (w3.alloc o).cell? c = some (.bool (h || satH a || satH b)) := fun o => by rw [World.cell?_alloc_lt _ _ _ (by omega)]; exact k1
      have k4 : ∀ cs t, (w3.alloc (.cells cs t)).frozen? c = false := fun cs t => by rw [frozen?_alloc_cells]; exact k2
      have D3 := Lib.hid (Wid.new w3 (P : Int) true)
      have B3 : Hid (Below w3.heap.size w3 (w3.alloc (.cells #[.int .u64 (hi64 (P : Int)), .int .u64 (lo64 (P : Int)), .bool true] 103))) := Lib.hid (by (repeat (first | with_reducible exact Below.refl _ _ | with_reducible apply Below.drew | (with_reducible refine below_drewN ?_ _) | (with_reducible refine Below.alloc ?_ (by (try simp) <;> omega) _) | (with_reducible refine Below.setCell ?_ (by (try simp) <;> omega) _))))
      go_upto_region 2 with fail
      have k5 := k3 (.cells #[.int .u64 (hi64 (P : Int)), .int .u64 (lo64 (P : Int)), .bool true] 103)
      have k6 := k4 #[.int .u64 (hi64 (P : Int)), .int .u64 (lo64 (P : Int)), .bool true] 103
      clear k1 k2 k3 k4
      obtain ⟨pb, hpb⟩ : ∃ pb, w3.heap.size = pb := ⟨_, rfl⟩
      generalize w3.alloc (.cells #[.int .u64 (hi64 (P : Int)), .int .u64 (lo64 (P : Int)), .bool true] 103) = w4 at *
      rw [hpb] at D3 ⊢
      have hcp : c.block < pb := by omega
      have hnc : pb ≠ c.block := by omega
      go_upto_region 3 with (refine (rsat_any c _ d _ k5 k6).mono ?_; rintro e w' ⟨rfl, rfl⟩)
      have c5 : (w4.setCell c (.bool (h || satH a || satH b || satH d))).cell? c = some (.bool (h || satH a || satH b || satH d)) := World.cell?_setCell_same _ _ _ k5
      have f5 : (w4.setCell c (.bool (h || satH a || satH b || satH d))).frozen? c = false := by simp [k6]
      have c6 := Lib.hid (Upd.set c true (w4.setCell c (.bool (h || satH a || satH b || satH d))))
      have D5 := Lib.hid (D3.out.other (a := c) hnc (.bool (h || satH a || satH b || satH d)))
      have U5 := Lib.hid (Upd.set c (h || satH a || satH b || satH d) w4)
      have hs5 : w4.heap.size = (w4.setCell c (.bool (h || satH a || satH b || satH d))).heap.size := (setCell_size _ _ _).symm
      generalize w4.setCell c (.bool (h || satH a || satH b || satH d)) = w5 at *
      clear k5 k6 D3
      obtain ⟨⟨d0, d1, d2⟩, v0, v1, v2⟩ := D5.out.c
      have D7 := D5.out.other (a := c) hnc (.bool true)
      go_upto_region 5 with fail
      have c7 := c6.out
      clear D5 d0 d1 d2 v0 v1 v2 c6
      generalize w5.setCell c (.bool true) = w6 at *
      have C7 := Lib.hid c7
      obtain ⟨⟨d0, d1, d2⟩, v0, v1, v2⟩ := D7.c
      clear c7
      go_wp2_with fail
      go_ret
      refine ⟨retI ?_, ?_⟩
      · have := HV.out
        first | (rw [if_pos HG.out] at this; exact this) | (rw [if_neg HG.out] at this; simpa using this)
      · exact (HW.out.trans (Upd.after HB3.out (Upd.after B3.out U5.out))).trans C7.out
theorem rmd_any (c : Addr) (h : Bool) (a b d : Int) (w : World) (hc : w.cell? c = some (.bool h)) (hf : w.frozen? c = false) :
    Calls Try.prog 49 #[.pointer (some c), .int .i64 a, .int .i64 b, .int .i64 d] w fun e w' => e = .returned (.int .i64 (mdivV a b d)) ∧ Upd c (h || mdivH a b d) w w' := by
  have hp := abs_prod_bd a b
  have ba := satV_bd a
  have bb := satV_bd b
  obtain ⟨P, hP⟩ : ∃ P, (satV a).natAbs * (satV b).natAbs = P := ⟨_, rfl⟩
  have hs := sg2_mul _ _ P hP
  have hm : ∀ w, Calls Try.prog 66 #[.int .i64 (satV a), .int .i64 (satV b)] w fun e w' => e = .returned (.agg #[.int .u64 (hi64 (P : Int)), .int .u64 (lo64 (P : Int)), .bool (sg2 (satV a) (satV b))]) ∧ Below w.heap.size w w' := fun w => rmul_any _ _ _ w ba.1 ba.2 bb.1 bb.2 (by rw [← hP]; simp)
  have hPa : P = (satV a * satV b).natAbs := by rw [Int.natAbs_mul, hP]
  by_cases hz : satV d = 0
  · have e2 : (h || mdivH a b d) = true := by simp [mdivH, byH, hz]
    rw [e2]
    refine rmd0 c h a b d _ _ _ P (sg2 (satV a) (satV b)) w hc hf rfl rfl hz ?_ hm
    unfold mdivV byV
    rw [if_pos hz]
    generalize satV a * satV b = X at *
    generalize sg2 (satV a) (satV b) = g at *
    subst hPa
    by_cases h0 : X = 0
    · subst h0; rfl
    · have h1 : ¬ X.natAbs = 0 := by omega
      rw [if_neg h1, if_neg h0]
      cases g
      · unfold sv at hs; simp at hs
        rw [if_neg (by simp), if_neg (by omega)]
      · unfold sv at hs; simp at hs
        rw [if_pos rfl, if_pos (by omega)]
  · have k := rdiv_sg (satV a * satV b) (satV d) hz
    rw [← hPa] at k
    have hsg : ∀ N : Nat, sv (sg2 (satV a * satV b) (satV d)) (dvM P N) = sv (!(sg2 (satV a) (satV b)) == decide (satV d < 0)) (dvM P N) ∨ P = 0 := by
      intro N
      by_cases h0 : P = 0
      · exact .inr h0
      · refine .inl ?_
        congr 1
        rw [← sg2_ne]
        have : decide (satV a * satV b < 0) = sg2 (satV a) (satV b) := by
          cases hsg : sg2 (satV a) (satV b)
          · rw [hsg] at hs; unfold sv at hs; simp at hs
            simp; omega
          · rw [hsg] at hs; unfold sv at hs; simp at hs
            simp; omega
        rw [this]
    have k2 : rdiv (satV a * satV b) (satV d) = sv (!(sg2 (satV a) (satV b)) == decide (satV d < 0)) (dvM P (satV d).natAbs) := by
      rw [k]
      rcases hsg (satV d).natAbs with h1 | h1
      · exact h1
      · subst h1
        have : dvM 0 (satV d).natAbs = 0 := by unfold dvM; rw [Nat.zero_mod, Nat.zero_div, if_neg (by omega)]
        rw [this, sv_0, sv_0]
    have e1 : mdivV a b d = satV (sv (!(sg2 (satV a) (satV b)) == decide (satV d < 0)) (dvM P (satV d).natAbs)) := by
      rw [← k2]; unfold mdivV byV; rw [if_neg hz]
    have e2 : (h || mdivH a b d) = (h || satH a || satH b || satH d || satH (sv (!(sg2 (satV a) (satV b)) == decide (satV d < 0)) (dvM P (satV d).natAbs))) := by
      rw [← k2]; unfold mdivH byH
      rw [show decide (satV d = 0) = false by simpa using hz]
      simp only [Bool.false_or, Bool.or_assoc]
    rw [e1, e2]
    rw [hP] at hp
    exact rmdS c h a b d _ _ _ P _ _ _ _ w hc hf rfl rfl rfl rfl hp rfl rfl (by simpa using hz) hm
end Go.Proofs.Ytokcnjadknonmaa
