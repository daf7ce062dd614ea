/- Contracts of the program's functions and plain laws, part 4: they hold for all arguments. -/
import Derived.Test.YtokcdlcmamdloaaQ03
import Derived.Shelf.Small.Bits
import Derived.Shelf.Strconv.Itoa0
import Derived.Shelf.Bits.Mul64
import Derived.Test.YtokcdlcmamdloaaProg
import Derived.Test.YtokcdlcmamdloaaQ02
/- Contracts of the reference's scalars (10): MulDiv. -/
namespace Go.Proofs.Ytokcdlcmamdloaa
open Go.RowKit
set_option maxRecDepth 100000
theorem Wid.set2 {w : World} {b : Nat} {M : Int} {m : Bool} (h : Wid w b M m) (n : Bool) : Wid (w.setCell ⟨b, 2, none⟩ (.bool n)) b M n :=
  heap_setCell_same w b 2 _ _ (.bool n) h
set_option maxHeartbeats 2000000 in
theorem rmdS (c : Addr) (h : Bool) (a b d x y z : Int) (P Z : Nat) (m bz n : Bool) (w : World) (hc : w.cell? c = some (.bool h)) (hf : w.frozen? c = false)
    (hx : satV a = x) (hy : satV b = y) (hz : satV d = z) (hZ : z.natAbs = Z) (hP : P ≤ 1329227995784915872903807060280344576) (dz : decide (z < 0) = bz) (hn : (!m == bz) = n) (z0 : (z == 0) = false)
    (hm : ∀ w, Calls Try.prog 66 #[.int .i64 x, .int .i64 y] w fun e w' => e = .returned (.agg #[.int .u64 (hi64 (P : Int)), .int .u64 (lo64 (P : Int)), .bool m]) ∧ Below w.heap.size w w') :
    Calls Try.prog 49 #[.pointer (some c), .int .i64 a, .int .i64 b, .int .i64 d] w fun e w' => e = .returned (.int .i64 (satV (sv n (dvM P Z)))) ∧ Upd c (h || satH a || satH b || satH d || satH (sv n (dvM P Z))) w w' := by
  have hcb := World.block_lt_of_cell? w c hc
  have bdz := satV_bd d
  rw [hz] at bdz
  have y1 : 0 < Z := by have : z ≠ 0 := by simpa using z0
                        omega
  have HM := Lib.hid hm
  have SZ := Lib.hid (fun w => rsize_any z w bdz.1 bdz.2)
  rw [hZ] at SZ
  have DV := Lib.hid (fun w => rdivided_any P Z n w (by omega) y1 (by omega))
  have c1 : (w.setCell c (.bool (h || satH a))).cell? c = some (.bool (h || satH a)) := World.cell?_setCell_same _ _ _ hc
  have c2 : ((w.setCell c (.bool (h || satH a))).setCell c (.bool (h || satH a || satH b))).cell? c = some (.bool (h || satH a || satH b)) := World.cell?_setCell_same _ _ _ c1
  have C2 := Lib.hid c2
  clear c2 hZ hP bdz y1 hm
  go_enter Try.func49, Try.ntmps49
  go_wp2_with fail
  refine (rsat_any c h a _ hc hf).mono ?_; rintro e w' ⟨rfl, rfl⟩
  go_wp2_with fail
  refine (rsat_any c _ b _ c1 (by simp [hf])).mono ?_; rintro e w' ⟨rfl, rfl⟩
  have HW := Lib.hid (Upd.trans (Upd.set c (h || satH a) w) (Upd.set c (h || satH a || satH b) _))
  have F2 : ((w.setCell c (.bool (h || satH a))).setCell c (.bool (h || satH a || satH b))).frozen? c = false := by simp [hf]
  have Z2 := Upd.size HW.out
  obtain ⟨w2, hw2⟩ : ∃ w2, (w.setCell c (.bool (h || satH a))).setCell c (.bool (h || satH a || satH b)) = w2 := ⟨_, rfl⟩
  rw [hw2] at HW C2 F2 Z2 ⊢
  clear hw2 c1 hc hf
  go_wp2_with fail
  refine (HM.out _).mono ?_; rintro e w3 ⟨rfl, hb3⟩
  have k1 : w3.cell? c = some (.bool (h || satH a || satH b)) := (hb3.cell (by omega)).trans C2.out
  have k2 : w3.frozen? c = false := (hb3.frozen (by omega)).trans F2
  have hs3 := hb3.size
  have HB3 := Lib.hid hb3
  clear hb3 C2 F2
  have k3 : ∀ o, (w3.alloc o).cell? c = some (.bool (h || satH a || satH b)) := fun o => by rw [World.cell?_alloc_lt _ _ _ (by omega)]; exact k1
  have k4 : ∀ cs t, (w3.alloc (.cells cs t)).frozen? c = false := fun cs t => by rw [frozen?_alloc_cells]; exact k2
  have D3 := Lib.hid (Wid.new w3 (P : Int) m)
  have B3 : Hid (Below w3.heap.size w3 (w3.alloc (.cells #[.int .u64 (hi64 (P : Int)), .int .u64 (lo64 (P : Int)), .bool m] 103))) := Lib.hid (by (repeat (first | with_reducible exact Below.refl _ _ | with_reducible apply Below.drew | (with_reducible refine below_drewN ?_ _) | (with_reducible refine Below.alloc ?_ (by (try simp) <;> omega) _) | (with_reducible refine Below.setCell ?_ (by (try simp) <;> omega) _))))
  go_upto_region 2 with fail
  have k5 := k3 (.cells #[.int .u64 (hi64 (P : Int)), .int .u64 (lo64 (P : Int)), .bool m] 103)
  have k6 := k4 #[.int .u64 (hi64 (P : Int)), .int .u64 (lo64 (P : Int)), .bool m] 103
  clear k1 k2 k3 k4
  obtain ⟨pb, hpb⟩ : ∃ pb, w3.heap.size = pb := ⟨_, rfl⟩
  generalize w3.alloc (.cells #[.int .u64 (hi64 (P : Int)), .int .u64 (lo64 (P : Int)), .bool m] 103) = w4 at *
  rw [hpb] at D3 ⊢
  have hcp : c.block < pb := by omega
  have hnc : pb ≠ c.block := by omega
  go_upto_region 3 with (refine (rsat_any c _ d _ k5 k6).mono ?_; rintro e w' ⟨rfl, rfl⟩)
  have c5 : (w4.setCell c (.bool (h || satH a || satH b || satH d))).cell? c = some (.bool (h || satH a || satH b || satH d)) := World.cell?_setCell_same _ _ _ k5
  have f5 : (w4.setCell c (.bool (h || satH a || satH b || satH d))).frozen? c = false := by simp [k6]
  have D5 := Lib.hid (D3.out.other (a := c) hnc (.bool (h || satH a || satH b || satH d)))
  have U5 := Lib.hid (Upd.set c (h || satH a || satH b || satH d) w4)
  have hs5 : w4.heap.size = (w4.setCell c (.bool (h || satH a || satH b || satH d))).heap.size := (setCell_size _ _ _).symm
  generalize w4.setCell c (.bool (h || satH a || satH b || satH d)) = w5 at *
  clear k5 k6 D3
  obtain ⟨⟨d0, d1, d2⟩, v0, v1, v2⟩ := D5.out.c
  go_upto_region 11 with fail
  have D6 := D5.out.set2 n
  have hwp : w.heap.size ≤ pb := by omega
  have B6 := Lib.hid (show Below w.heap.size w5 (w5.setCell ⟨pb, 2, none⟩ (.bool n)) from (Below.refl _ _).setCell hwp _)
  have k1 : (w5.setCell ⟨pb, 2, none⟩ (.bool n)).cell? c = some (.bool (h || satH a || satH b || satH d)) := (World.cell?_setCell_other _ _ _ _ (fun e => by rw [← e] at hcp; simp at hcp)).trans c5
  have k2 : (w5.setCell ⟨pb, 2, none⟩ (.bool n)).frozen? c = false := by simp [f5]
  have hs6 : w5.heap.size = (w5.setCell ⟨pb, 2, none⟩ (.bool n)).heap.size := (setCell_size _ _ _).symm
  clear D5 d0 d1 d2 v0 v1 v2 c5 f5
  generalize w5.setCell ⟨pb, 2, none⟩ (.bool n) = w6 at *
  have z6 := D6.lt
  obtain ⟨⟨d0, d1, d2⟩, _⟩ := D6.c
  have nc : ∀ o, c ≠ ⟨pb, o, none⟩ := fun o e => by rw [e] at hcp; simp at hcp
  refine wp_region_M (fun w' => w'.cell? ⟨pb, 0, none⟩ = some (.int .u64 (hi64 (P : Int))) ∧ w'.cell? ⟨pb, 1, none⟩ = some (.int .u64 (lo64 (P : Int))) ∧ w'.cell? ⟨pb, 2, none⟩ = some (.bool n)) 6 (by kernel_rfl) ?_ (fun hHeld => ?_)
  · exact ⟨d0, d1, d2⟩
  refine wpAnyM_take 0 (v := ?_) rfl (by kernel_rfl) (fun _ _ _ h => h) (Or.inl ⟨by rfl, ?_⟩) (by assumption) ?_
  rotate_left
  · (intro wx hSw; (try dsimp only at hSw); go_simp; (try with_reducible rfl))
  (try simp only [Act.put, List.setIfInBounds_toArray, List.set_cons_zero, List.set_cons_succ])
  refine wpAnyM_take 1 (v := ?_) rfl (by kernel_rfl) (fun _ _ _ h => h) (Or.inl ⟨by rfl, ?_⟩) (by assumption) ?_
  rotate_left
  · (intro wx hSw; (try dsimp only at hSw); go_simp; (try with_reducible rfl))
  (try simp only [Act.put, List.setIfInBounds_toArray, List.set_cons_zero, List.set_cons_succ])
  refine wpAnyM_take 2 (v := ?_) rfl (by kernel_rfl) (fun _ _ _ h => h) (Or.inl ⟨by rfl, ?_⟩) (by assumption) ?_
  rotate_left
  · (intro wx hSw; (try dsimp only at hSw); go_simp; (try with_reducible rfl))
  (try simp only [Act.put, List.setIfInBounds_toArray, List.set_cons_zero, List.set_cons_succ])
  refine wpAnyM_oneS 3 rfl (by kernel_rfl) (fun K hK => ?_)
  go_simp
  (refine (SZ.out _).mono ?_; rintro e w' ⟨rfl, rfl⟩)
  (try dsimp only)
  (try simp only [Act.put, List.setIfInBounds_toArray, List.set_cons_zero, List.set_cons_succ])
  clear hHeld
  refine hK.out _ _ ?_ (fun hHeld => ?_)
  · exact ⟨d0, d1, d2⟩
  clear hK K
  (try simp only [Act.put, List.setIfInBounds_toArray, List.set_cons_zero, List.set_cons_succ])
  refine wpAnyM_oneS 4 rfl (by kernel_rfl) (fun K hK => ?_)
  go_simp
  (refine (DV.out _).mono ?_; rintro e w7 ⟨rfl, hb7⟩)
  (try dsimp only)
  (try simp only [Act.put, List.setIfInBounds_toArray, List.set_cons_zero, List.set_cons_succ])
  clear hHeld
  refine hK.out _ _ ?_ (fun hHeld => ?_)
  · exact ⟨(hb7.cell z6).trans d0, (hb7.cell z6).trans d1, (hb7.cell z6).trans d2⟩
  clear hK K
  (try simp only [Act.put, List.setIfInBounds_toArray, List.set_cons_zero, List.set_cons_succ])
  refine wpAnyM_oneS 5 rfl (by kernel_rfl) (fun K hK => ?_)
  go_simp
  (refine (rend2_any c _ (dvM P Z) n _ ((hb7.cell (by (try simp); omega)).trans (by simpa using k1)) ((hb7.frozen (by (try simp); omega)).trans (by simpa using k2))).mono ?_; rintro e w8 ⟨rfl, hu8⟩)
  (try dsimp only)
  (try simp only [Act.put, List.setIfInBounds_toArray, List.set_cons_zero, List.set_cons_succ])
  clear hHeld
  refine hK.out _ _ ?_ (fun hHeld => ?_)
  · have z7 : pb < w7.heap.size := Nat.lt_of_lt_of_le z6 hb7.size; exact ⟨(hu8.cell z7 (nc 0)).trans ((hb7.cell z6).trans d0), (hu8.cell z7 (nc 1)).trans ((hb7.cell z6).trans d1), (hu8.cell z7 (nc 2)).trans ((hb7.cell z6).trans d2)⟩
  clear hK K
  (try simp only [Act.put, List.setIfInBounds_toArray, List.set_cons_zero, List.set_cons_succ])
  refine wpAnyM_one 6 rfl (by kernel_rfl) (fun K hK => ?_)
  go_simp
  refine hK.out _ _ (.inl (by kernel_rfl)) (fun _ => ?_)
  clear hK K
  (try simp only [Act.put, List.setIfInBounds_toArray, List.set_cons_zero, List.set_cons_succ])
  refine wpAnyM_done (by kernel_rfl) ?_ _
  go_wp2_with fail
  go_ret
  refine ⟨rfl, ?_⟩
  exact ((HW.out.trans (Upd.after HB3.out (Upd.after B3.out U5.out))).then' B6.out).trans (Upd.after (Below.drew (Below.refl _ _)) (Upd.after hb7 hu8))
set_option maxHeartbeats 4000000 in
theorem rmd0 (c : Addr) (h : Bool) (a b d x y v : Int) (P : Nat) (m : Bool) (w : World) (hc : w.cell? c = some (.bool h)) (hf : w.frozen? c = false)
    (hx : satV a = x) (hy : satV b = y) (hz : satV d = 0) (hv : (if P = 0 then 0 else if m = true then -1152921504606846976 else 1152921504606846976) = v)
    (hm : ∀ w, Calls Try.prog 66 #[.int .i64 x, .int .i64 y] w fun e w' => e = .returned (.agg #[.int .u64 (hi64 (P : Int)), .int .u64 (lo64 (P : Int)), .bool m]) ∧ Below w.heap.size w w') :
    Calls Try.prog 49 #[.pointer (some c), .int .i64 a, .int .i64 b, .int .i64 d] w fun e w' => e = .returned (.int .i64 v) ∧ Upd c true w w' := by
  have hcb := World.block_lt_of_cell? w c hc
  have HM := Lib.hid hm
  have c1 : (w.setCell c (.bool (h || satH a))).cell? c = some (.bool (h || satH a)) := World.cell?_setCell_same _ _ _ hc
  have c2 : ((w.setCell c (.bool (h || satH a))).setCell c (.bool (h || satH a || satH b))).cell? c = some (.bool (h || satH a || satH b)) := World.cell?_setCell_same _ _ _ c1
  have C2 := Lib.hid c2
  clear c2 hm
  have hcase : (P = 0 ∧ (hi64 (P : Int) == 0) = true ∧ (lo64 (P : Int) == 0) = true) ∨ (P ≠ 0 ∧ (hi64 (P : Int) == 0) = false) ∨ (P ≠ 0 ∧ (hi64 (P : Int) == 0) = true ∧ (lo64 (P : Int) == 0) = false) := by
    simp only [beq_iff_eq, beq_eq_false_iff_ne, ne_eq]
    unfold hi64 lo64
    omega
  have HV := Lib.hid hv
  clear hv
  cases m
  · rcases hcase with ⟨g0, g1, g2⟩ | ⟨g0, g1⟩ | ⟨g0, g1, g2⟩
    all_goals
      have HG := Lib.hid g0
      clear g0
      go_enter Try.func49, Try.ntmps49
      go_wp2_with fail
      refine (rsat_any c h a _ hc hf).mono ?_; rintro e w' ⟨rfl, rfl⟩
      go_wp2_with fail
      refine (rsat_any c _ b _ c1 (by simp [hf])).mono ?_; rintro e w' ⟨rfl, rfl⟩
      have HW := Lib.hid (Upd.trans (Upd.set c (h || satH a) w) (Upd.set c (h || satH a || satH b) _))
      have F2 : ((w.setCell c (.bool (h || satH a))).setCell c (.bool (h || satH a || satH b))).frozen? c = false := by simp [hf]
      have Z2 := Upd.size HW.out
      obtain ⟨w2, hw2⟩ : ∃ w2, (w.setCell c (.bool (h || satH a))).setCell c (.bool (h || satH a || satH b)) = w2 := ⟨_, rfl⟩
      rw [hw2] at HW C2 F2 Z2 ⊢
      clear hw2 c1 hc hf
      go_wp2_with fail
      refine (HM.out _).mono ?_; rintro e w3 ⟨rfl, hb3⟩
      have k1 : w3.cell? c = some (.bool (h || satH a || satH b)) := (hb3.cell (by omega)).trans C2.out
      have k2 : w3.frozen? c = false := (hb3.frozen (by omega)).trans F2
      have hs3 := hb3.size
      have HB3 := Lib.hid hb3
      clear hb3 C2 F2
      have k3 : ∀ o, (w3.alloc o).cell? c = some (.bool (h || satH a || satH b)) := fun o => by rw [World.cell?_alloc_lt _ _ _ (by omega)]; exact k1
      have k4 : ∀ cs t, (w3.alloc (.cells cs t)).frozen? c = false := fun cs t => by rw [frozen?_alloc_cells]; exact k2
      have D3 := Lib.hid (Wid.new w3 (P : Int) false)
      have B3 : Hid (Below w3.heap.size w3 (w3.alloc (.cells #[.int .u64 (hi64 (P : Int)), .int .u64 (lo64 (P : Int)), .bool false] 103))) := Lib.hid (by (repeat (first | with_reducible exact Below.refl _ _ | with_reducible apply Below.drew | (with_reducible refine below_drewN ?_ _) | (with_reducible refine Below.alloc ?_ (by (try simp) <;> omega) _) | (with_reducible refine Below.setCell ?_ (by (try simp) <;> omega) _))))
      go_upto_region 2 with fail
      have k5 := k3 (.cells #[.int .u64 (hi64 (P : Int)), .int .u64 (lo64 (P : Int)), .bool false] 103)
      have k6 := k4 #[.int .u64 (hi64 (P : Int)), .int .u64 (lo64 (P : Int)), .bool false] 103
      clear k1 k2 k3 k4
      obtain ⟨pb, hpb⟩ : ∃ pb, w3.heap.size = pb := ⟨_, rfl⟩
      generalize w3.alloc (.cells #[.int .u64 (hi64 (P : Int)), .int .u64 (lo64 (P : Int)), .bool false] 103) = w4 at *
      rw [hpb] at D3 ⊢
      have hcp : c.block < pb := by omega
      have hnc : pb ≠ c.block := by omega
      go_upto_region 3 with (refine (rsat_any c _ d _ k5 k6).mono ?_; rintro e w' ⟨rfl, rfl⟩)
      have c5 : (w4.setCell c (.bool (h || satH a || satH b || satH d))).cell? c = some (.bool (h || satH a || satH b || satH d)) := World.cell?_setCell_same _ _ _ k5
      have f5 : (w4.setCell c (.bool (h || satH a || satH b || satH d))).frozen? c = false := by simp [k6]
      have c6 := Lib.hid (Upd.set c true (w4.setCell c (.bool (h || satH a || satH b || satH d))))
      have D5 := Lib.hid (D3.out.other (a := c) hnc (.bool (h || satH a || satH b || satH d)))
      have U5 := Lib.hid (Upd.set c (h || satH a || satH b || satH d) w4)
      have hs5 : w4.heap.size = (w4.setCell c (.bool (h || satH a || satH b || satH d))).heap.size := (setCell_size _ _ _).symm
      generalize w4.setCell c (.bool (h || satH a || satH b || satH d)) = w5 at *
      clear k5 k6 D3
      obtain ⟨⟨d0, d1, d2⟩, v0, v1, v2⟩ := D5.out.c
      have D7 := D5.out.other (a := c) hnc (.bool true)
      go_upto_region 5 with fail
      have c7 := c6.out
      clear D5 d0 d1 d2 v0 v1 v2 c6
      generalize w5.setCell c (.bool true) = w6 at *
      have C7 := Lib.hid c7
      obtain ⟨⟨d0, d1, d2⟩, v0, v1, v2⟩ := D7.c
      clear c7
      go_wp2_with fail
      go_ret
      refine ⟨retI ?_, ?_⟩
      · have := HV.out
        first | (rw [if_pos HG.out] at this; exact this) | (rw [if_neg HG.out] at this; simpa using this)
      · exact (HW.out.trans (Upd.after HB3.out (Upd.after B3.out U5.out))).trans C7.out
  · rcases hcase with ⟨g0, g1, g2⟩ | ⟨g0, g1⟩ | ⟨g0, g1, g2⟩
    all_goals
      have HG := Lib.hid g0
      clear g0
      go_enter Try.func49, Try.ntmps49
      go_wp2_with fail
      refine (rsat_any c h a _ hc hf).mono ?_; rintro e w' ⟨rfl, rfl⟩
      go_wp2_with fail
      refine (rsat_any c _ b _ c1 (by simp [hf])).mono ?_; rintro e w' ⟨rfl, rfl⟩
      have HW := Lib.hid (Upd.trans (Upd.set c (h || satH a) w) (Upd.set c (h || satH a || satH b) _))
      have F2 : ((w.setCell c (.bool (h || satH a))).setCell c (.bool (h || satH a || satH b))).frozen? c = false := by simp [hf]
      have Z2 := Upd.size HW.out
      obtain ⟨w2, hw2⟩ : ∃ w2, (w.setCell c (.bool (h || satH a))).setCell c (.bool (h || satH a || satH b)) = w2 := ⟨_, rfl⟩
      rw [hw2] at HW C2 F2 Z2 ⊢
      clear hw2 c1 hc hf
      go_wp2_with fail
      refine (HM.out _).mono ?_; rintro e w3 ⟨rfl, hb3⟩
      have k1 : w3.cell? c = some (.bool (h || satH a || satH b)) := (hb3.cell (by omega)).trans C2.out
      have k2 : w3.frozen? c = false := (hb3.frozen (by omega)).trans F2
      have hs3 := hb3.size
      have HB3 := Lib.hid hb3
      clear hb3 C2 F2
      have k3 : ∀ o, (w3.alloc o).cell? c = some (.bool (h || satH a || satH b)) := fun o => by rw [World.cell?_alloc_lt _ _ _ (by omega)]; exact k1
      have k4 : ∀ cs t, (w3.alloc (.cells cs t)).frozen? c = false := fun cs t => by rw [frozen?_alloc_cells]; exact k2
      have D3 := Lib.hid (Wid.new w3 (P : Int) true)
      have B3 : Hid (Below w3.heap.size w3 (w3.alloc (.cells #[.int .u64 (hi64 (P : Int)), .int .u64 (lo64 (P : Int)), .bool true] 103))) := Lib.hid (by (repeat (first | with_reducible exact Below.refl _ _ | with_reducible apply Below.drew | (with_reducible refine below_drewN ?_ _) | (with_reducible refine Below.alloc ?_ (by (try simp) <;> omega) _) | (with_reducible refine Below.setCell ?_ (by (try simp) <;> omega) _))))
      go_upto_region 2 with fail
      have k5 := k3 (.cells #[.int .u64 (hi64 (P : Int)), .int .u64 (lo64 (P : Int)), .bool true] 103)
      have k6 := k4 #[.int .u64 (hi64 (P : Int)), .int .u64 (lo64 (P : Int)), .bool true] 103
      clear k1 k2 k3 k4
      obtain ⟨pb, hpb⟩ : ∃ pb, w3.heap.size = pb := ⟨_, rfl⟩
      generalize w3.alloc (.cells #[.int .u64 (hi64 (P : Int)), .int .u64 (lo64 (P : Int)), .bool true] 103) = w4 at *
      rw [hpb] at D3 ⊢
      have hcp : c.block < pb := by omega
      have hnc : pb ≠ c.block := by omega
      go_upto_region 3 with (refine (rsat_any c _ d _ k5 k6).mono ?_; rintro e w' ⟨rfl, rfl⟩)
      have c5 : (w4.setCell c (.bool (h || satH a || satH b || satH d))).cell? c = some (.bool (h || satH a || satH b || satH d)) := World.cell?_setCell_same _ _ _ k5
      have f5 : (w4.setCell c (.bool (h || satH a || satH b || satH d))).frozen? c = false := by simp [k6]
      have c6 := Lib.hid (Upd.set c true (w4.setCell c (.bool (h || satH a || satH b || satH d))))
      have D5 := Lib.hid (D3.out.other (a := c) hnc (.bool (h || satH a || satH b || satH d)))
      have U5 := Lib.hid (Upd.set c (h || satH a || satH b || satH d) w4)
      have hs5 : w4.heap.size = (w4.setCell c (.bool (h || satH a || satH b || satH d))).heap.size := (setCell_size _ _ _).symm
      generalize w4.setCell c (.bool (h || satH a || satH b || satH d)) = w5 at *
      clear k5 k6 D3
      obtain ⟨⟨d0, d1, d2⟩, v0, v1, v2⟩ := D5.out.c
      have D7 := D5.out.other (a := c) hnc (.bool true)
      go_upto_region 5 with fail
      have c7 := c6.out
      clear D5 d0 d1 d2 v0 v1 v2 c6
      generalize w5.setCell c (.bool true) = w6 at *
      have C7 := Lib.hid c7
      obtain ⟨⟨d0, d1, d2⟩, v0, v1, v2⟩ := D7.c
      clear c7
      go_wp2_with fail
      go_ret
      refine ⟨retI ?_, ?_⟩
      · have := HV.out
        first | (rw [if_pos HG.out] at this; exact this) | (rw [if_neg HG.out] at this; simpa using this)
      · exact (HW.out.trans (Upd.after HB3.out (Upd.after B3.out U5.out))).trans C7.out
theorem rmd_any (c : Addr) (h : Bool) (a b d : Int) (w : World) (hc : w.cell? c = some (.bool h)) (hf : w.frozen? c = false) :
    Calls Try.prog 49 #[.pointer (some c), .int .i64 a, .int .i64 b, .int .i64 d] w fun e w' => e = .returned (.int .i64 (mdivV a b d)) ∧ Upd c (h || mdivH a b d) w w' := by
  have hp := abs_prod_bd a b
  have ba := satV_bd a
  have bb := satV_bd b
  obtain ⟨P, hP⟩ : ∃ P, (satV a).natAbs * (satV b).natAbs = P := ⟨_, rfl⟩
  have hs := sg2_mul _ _ P hP
  have hm : ∀ w, Calls Try.prog 66 #[.int .i64 (satV a), .int .i64 (satV b)] w fun e w' => e = .returned (.agg #[.int .u64 (hi64 (P : Int)), .int .u64 (lo64 (P : Int)), .bool (sg2 (satV a) (satV b))]) ∧ Below w.heap.size w w' := fun w => rmul_any _ _ _ w ba.1 ba.2 bb.1 bb.2 (by rw [← hP]; simp)
  have hPa : P = (satV a * satV b).natAbs := by rw [Int.natAbs_mul, hP]
  by_cases hz : satV d = 0
  · have e2 : (h || mdivH a b d) = true := by simp [mdivH, byH, hz]
    rw [e2]
    refine rmd0 c h a b d _ _ _ P (sg2 (satV a) (satV b)) w hc hf rfl rfl hz ?_ hm
    unfold mdivV byV
    rw [if_pos hz]
    generalize satV a * satV b = X at *
    generalize sg2 (satV a) (satV b) = g at *
    subst hPa
    by_cases h0 : X = 0
    · subst h0; rfl
    · have h1 : ¬ X.natAbs = 0 := by omega
      rw [if_neg h1, if_neg h0]
      cases g
      · unfold sv at hs; simp at hs
        rw [if_neg (by simp), if_neg (by omega)]
      · unfold sv at hs; simp at hs
        rw [if_pos rfl, if_pos (by omega)]
  · have k := rdiv_sg (satV a * satV b) (satV d) hz
    rw [← hPa] at k
    have hsg : ∀ N : Nat, sv (sg2 (satV a * satV b) (satV d)) (dvM P N) = sv (!(sg2 (satV a) (satV b)) == decide (satV d < 0)) (dvM P N) ∨ P = 0 := by
      intro N
      by_cases h0 : P = 0
      · exact .inr h0
      · refine .inl ?_
        congr 1
        rw [← sg2_ne]
        have : decide (satV a * satV b < 0) = sg2 (satV a) (satV b) := by
          cases hsg : sg2 (satV a) (satV b)
          · rw [hsg] at hs; unfold sv at hs; simp at hs
            simp; omega
          · rw [hsg] at hs; unfold sv at hs; simp at hs
            simp; omega
        rw [this]
    have k2 : rdiv (satV a * satV b) (satV d) = sv (!(sg2 (satV a) (satV b)) == decide (satV d < 0)) (dvM P (satV d).natAbs) := by
      rw [k]
      rcases hsg (satV d).natAbs with h1 | h1
      · exact h1
      · subst h1
        have : dvM 0 (satV d).natAbs = 0 := by unfold dvM; rw [Nat.zero_mod, Nat.zero_div, if_neg (by omega)]
        rw [this, sv_0, sv_0]
    have e1 : mdivV a b d = satV (sv (!(sg2 (satV a) (satV b)) == decide (satV d < 0)) (dvM P (satV d).natAbs)) := by
      rw [← k2]; unfold mdivV byV; rw [if_neg hz]
    have e2 : (h || mdivH a b d) = (h || satH a || satH b || satH d || satH (sv (!(sg2 (satV a) (satV b)) == decide (satV d < 0)) (dvM P (satV d).natAbs))) := by
      rw [← k2]; unfold mdivH byH
      rw [show decide (satV d = 0) = false by simpa using hz]
      simp only [Bool.false_or, Bool.or_assoc]
    rw [e1, e2]
    rw [hP] at hp
    exact rmdS c h a b d _ _ _ P _ _ _ _ w hc hf rfl rfl rfl rfl hp rfl rfl (by simpa using hz) hm
end Go.Proofs.Ytokcdlcmamdloaa
/- Contracts of math/bits out of the guide's shelf, laid at this program (by the shelf's own tool). -/
namespace Go.Proofs.Ytokcdlcmamdloaa
open Go.Shelf
def lays134_ren : Go.Shelf.Ren := ⟨fun | 134 => 89 | 129 => 90 | n => n, fun | 53 => 91 | 3 => 3 | 4 => 4 | 46 => 114 | 5 => 5 | 9 => 9 | n => n, fun | n => n⟩
theorem lays134 : Go.Proofs.Lays.n134 Try.prog lays134_ren := {
  mixed := by kernel_rfl
  f129 := Try.func90.trans (congrArg some (by kernel_rfl))
  f134 := Try.func89.trans (congrArg some (by kernel_rfl))
  t3 := Try.underlying3
  a3 := Try.isAgg3
  z3 := Try.sizeOf3
  v3 := Try.zeroValue3
  t4 := Try.underlying4
  a4 := Try.isAgg4
  z4 := Try.sizeOf4
  v4 := Try.zeroValue4
  t5 := Try.underlying5
  a5 := Try.isAgg5
  z5 := Try.sizeOf5
  v5 := Try.zeroValue5
  t9 := Try.underlying9
  a9 := Try.isAgg9
  z9 := Try.sizeOf9
  v9 := Try.zeroValue9
  t46 := Try.underlying114
  a46 := Try.isAgg114
  z46 := Try.sizeOf114
  v46 := Try.zeroValue114
  t53 := Try.underlying91
  a53 := Try.isAgg91
  z53 := Try.sizeOf91
  v53 := Try.zeroValue91 }
theorem bits_LeadingZeros64 (x : Int) (w : World) (h0 : 0 ≤ x) (h1 : x ≤ 18446744073709551615) :
    Calls Try.prog 89 #[.int .u64 x] w fun e w' => e = .returned (.int .i64 (64 - (Lib.bitLen x.toNat : Int))) ∧ w' = w := Any.bits_LeadingZeros64 lays134 x w h0 h1
def lays129_ren : Go.Shelf.Ren := ⟨fun | 129 => 90 | n => n, fun | 53 => 91 | 3 => 3 | 4 => 4 | 46 => 114 | 5 => 5 | 9 => 9 | n => n, fun | n => n⟩
theorem lays129 : Go.Proofs.Lays.n129 Try.prog lays129_ren := {
  mixed := by kernel_rfl
  f129 := Try.func90.trans (congrArg some (by kernel_rfl))
  t3 := Try.underlying3
  a3 := Try.isAgg3
  z3 := Try.sizeOf3
  v3 := Try.zeroValue3
  t4 := Try.underlying4
  a4 := Try.isAgg4
  z4 := Try.sizeOf4
  v4 := Try.zeroValue4
  t5 := Try.underlying5
  a5 := Try.isAgg5
  z5 := Try.sizeOf5
  v5 := Try.zeroValue5
  t9 := Try.underlying9
  a9 := Try.isAgg9
  z9 := Try.sizeOf9
  v9 := Try.zeroValue9
  t46 := Try.underlying114
  a46 := Try.isAgg114
  z46 := Try.sizeOf114
  v46 := Try.zeroValue114
  t53 := Try.underlying91
  a53 := Try.isAgg91
  z53 := Try.sizeOf91
  v53 := Try.zeroValue91 }
theorem bits_Len64 (x : Int) (w : World) (h0 : 0 ≤ x) (h1 : x ≤ 18446744073709551615) :
    Calls Try.prog 90 #[.int .u64 x] w fun e w' => e = .returned (.int .i64 (Lib.bitLen x.toNat)) ∧ w' = w := Any.bits_Len64 lays129 x w h0 h1
def lays264_ren : Go.Shelf.Ren := ⟨fun | 264 => 74 | n => n, fun | 53 => 91 | 46 => 114 | n => n, fun | n => n⟩
theorem lays264 : Go.Proofs.Lays.n264 Try.prog lays264_ren := {
  mixed := by kernel_rfl
  f264 := Try.func74.trans (congrArg some (by kernel_rfl))
  t46 := Try.underlying114
  a46 := Try.isAgg114
  z46 := Try.sizeOf114
  v46 := Try.zeroValue114
  t53 := Try.underlying91
  a53 := Try.isAgg91
  z53 := Try.sizeOf91
  v53 := Try.zeroValue91 }
open Go.RowKit Go.Lib in
theorem bits_Mul64 (x y : Nat) (hx : x < 18446744073709551616) (hy : y < 18446744073709551616) (w : World) :
    Calls Try.prog 74 #[.int .u64 x, .int .u64 y] w fun e w' => e = .returned (.tuple #[.int .u64 ((x * y / 18446744073709551616 : Nat) : Int), .int .u64 ((x * y % 18446744073709551616 : Nat) : Int)]) ∧ w' = w := Any.bits_Mul64 lays264 x y hx hy w
end Go.Proofs.Ytokcdlcmamdloaa
/- Plain: division of 128 bits by 64, as math/bits does it (Knuth's algorithm D). No program here. -/
namespace Go.Proofs.Ytokcdlcmamdloaa

theorem kn_mulY (q a b Y : Int) (hY : Y = a * 4294967296 + b) : q * Y = q * a * 4294967296 + q * b := by
  rw [hY, Int.mul_add, Int.mul_assoc]
/-- What holds at a round's head: q is no smaller than the true digit. -/
structure KInv (u v Y a b q r : Int) : Prop where
  sum : q * a + r = u
  ge : (u * 4294967296 + v) / Y ≤ q
  r0 : 0 ≤ r
  r1 : r < 4294967296
  q1 : q ≤ 4294967297
/-- What is known of the divisor's halves and the number's. -/
structure KNum (u v Y a b : Int) : Prop where
  hY : Y = a * 4294967296 + b
  a0 : 2147483648 ≤ a
  a1 : a < 4294967296
  b0 : 0 ≤ b
  b1 : b < 4294967296
  u0 : 0 ≤ u
  u1 : u < Y
  v0 : 0 ≤ v
  v1 : v < 4294967296
theorem KNum.Y0 {u v Y a b : Int} (n : KNum u v Y a b) : 0 < Y := by have := n.hY; have := n.a0; have := n.b0; omega
theorem KNum.Q0 {u v Y a b : Int} (n : KNum u v Y a b) : 0 ≤ (u * 4294967296 + v) / Y := Int.ediv_nonneg (by have := n.u0; have := n.v0; omega) (Int.le_of_lt n.Y0)
theorem KNum.Q1 {u v Y a b : Int} (n : KNum u v Y a b) : (u * 4294967296 + v) / Y < 4294967296 :=
  Int.ediv_lt_of_lt_mul n.Y0 (by have := n.u1; have := n.v1; omega)
theorem KInv.start {u v Y a b : Int} (n : KNum u v Y a b) : KInv u v Y a b (u / a) (u - u / a * a) := by
  have ha : 0 < a := by have := n.a0; omega
  have hm := Int.emod_nonneg u (Int.ne_of_gt ha)
  have hm2 := Int.emod_lt_of_pos u ha
  have hd := Int.mul_ediv_add_emod u a
  rw [Int.mul_comm] at hd
  have hr : u - u / a * a = u % a := by omega
  refine ⟨by omega, ?_, by omega, by have := n.a1; omega, ?_⟩
  · apply Int.le_of_lt_add_one
    apply Int.ediv_lt_of_lt_mul n.Y0
    rw [kn_mulY (u / a + 1) a b Y n.hY]
    have h1 : (u / a + 1) * a = u / a * a + a := by rw [Int.add_mul, Int.one_mul]
    have h2 : 0 ≤ (u / a + 1) * b := Int.mul_nonneg (by have := Int.ediv_nonneg n.u0 (Int.le_of_lt ha); omega) n.b0
    rw [h1]
    have := n.v1
    omega
  · apply Int.le_of_lt_add_one
    apply Int.ediv_lt_of_lt_mul ha
    have := n.u1; have := n.hY; have := n.b1; have := n.a0
    omega
theorem kn_key {u v Y a b q r : Int} (n : KNum u v Y a b) (s : q * a + r = u) : u * 4294967296 + v - q * Y = 4294967296 * r + v - q * b := by
  rw [kn_mulY q a b Y n.hY, ← s]
  omega
/-- The test says: too great. -/
theorem KInv.less {u v Y a b q r : Int} (n : KNum u v Y a b) (i : KInv u v Y a b q r) (h : 4294967296 ≤ q ∨ 4294967296 * r + v < q * b) :
    (u * 4294967296 + v) / Y ≤ q - 1 ∧ 1 ≤ q := by
  have hq : (u * 4294967296 + v) / Y ≤ q - 1 := by
    rcases h with h | h
    · have := n.Q1; omega
    · have := kn_key n i.sum
      have h2 : (u * 4294967296 + v) / Y < q := Int.ediv_lt_of_lt_mul n.Y0 (by omega)
      omega
  have := n.Q0
  exact ⟨hq, by omega⟩
theorem KInv.next {u v Y a b q r : Int} (n : KNum u v Y a b) (i : KInv u v Y a b q r) (h : 4294967296 ≤ q ∨ 4294967296 * r + v < q * b) (hr : r + a < 4294967296) :
    KInv u v Y a b (q - 1) (r + a) := by
  obtain ⟨h1, _⟩ := i.less n h
  refine ⟨?_, h1, by have := i.r0; have := n.a0; omega, hr, by have := i.q1; omega⟩
  have := i.sum
  rw [Int.sub_mul, Int.one_mul]; omega
theorem KInv.broke {u v Y a b q r : Int} (n : KNum u v Y a b) (i : KInv u v Y a b q r) (h : 4294967296 ≤ q ∨ 4294967296 * r + v < q * b) (hr : 4294967296 ≤ r + a) :
    q - 1 = (u * 4294967296 + v) / Y := by
  obtain ⟨h1, h2⟩ := i.less n h
  have s : (q - 1) * a + (r + a) = u := by have := i.sum; rw [Int.sub_mul, Int.one_mul]; omega
  have k := kn_key n s
  have hb : (q - 1) * b ≤ 4294967296 * b := Int.mul_le_mul_of_nonneg_right (by have := i.q1; omega) n.b0
  have : q - 1 ≤ (u * 4294967296 + v) / Y := Int.le_ediv_of_mul_le n.Y0 (by have := n.b1; have := n.v0; omega)
  omega
theorem KInv.done {u v Y a b q r : Int} (n : KNum u v Y a b) (i : KInv u v Y a b q r) (h : ¬ 4294967296 * r + v < q * b) : q = (u * 4294967296 + v) / Y := by
  have k := kn_key n i.sum
  have : q ≤ (u * 4294967296 + v) / Y := Int.le_ediv_of_mul_le n.Y0 (by omega)
  have := i.ge
  omega
theorem KInv.q0 {u v Y a b q r : Int} (n : KNum u v Y a b) (i : KInv u v Y a b q r) : 0 ≤ q := by have := n.Q0; have := i.ge; omega
theorem KInv.qb {u v Y a b q r : Int} (n : KNum u v Y a b) (i : KInv u v Y a b q r) (h : ¬ 4294967296 ≤ q) : 0 ≤ q * b ∧ q * b < 18446744073709551616 := by
  have := i.q0 n
  refine ⟨Int.mul_nonneg this n.b0, ?_⟩
  have h1 : q * b ≤ 4294967295 * b := Int.mul_le_mul_of_nonneg_right (by omega) n.b0
  have := n.b1
  omega
end Go.Proofs.Ytokcdlcmamdloaa
/- Contract of math/bits.Div64. -/
namespace Go.Proofs.Ytokcdlcmamdloaa
open Go.RowKit
set_option maxRecDepth 100000
def Out (P : Prop) : Prop := P
set_option maxHeartbeats 1000000 in
theorem div64_big (x y d s Y a b u v v1 v0 q r u2 q2 r2 Q1 Q2 t1 t2 t3 t4 t5 R : Int) (w : World) (x0 : 0 < x) (x1 : x < d)
    (s0 : 0 ≤ s) (s1 : s < 64)
    (lz : ∀ w, Calls Try.prog 89 #[.int .u64 d] w fun e w' => e = .returned (.int .i64 s) ∧ w = w')
    (e1 : IntKind.u64.wrap (d * 2 ^ s.toNat) = Y) (e2 : Y / 4294967296 = a) (a0 : 0 < a) (e3 : bits .and .u64 Y 4294967295 = b)
    (e4 : bits .or .u64 (IntKind.u64.wrap (x * 2 ^ s.toNat)) (y / 2 ^ (64 - s).toNat) = u) (e5 : IntKind.u64.wrap (y * 2 ^ s.toNat) = v)
    (e6 : v / 4294967296 = v1) (e7 : bits .and .u64 v 4294967295 = v0) (e8 : IntKind.u64.wrap (u.tdiv a) = q) (e9 : IntKind.u64.wrap (u - IntKind.u64.wrap (q * a)) = r)
    (n1 : KNum u v1 Y a b) (i1 : KInv u v1 Y a b q r) (hQ1 : Hid ((u * 4294967296 + v1) / Y = Q1))
    (f1 : IntKind.u64.wrap (IntKind.u64.wrap (u * 4294967296) + v1) = t1) (f2 : IntKind.u64.wrap (Q1 * Y) = t2) (f3 : IntKind.u64.wrap (t1 - t2) = u2)
    (f4 : IntKind.u64.wrap (u2.tdiv a) = q2) (f5 : IntKind.u64.wrap (u2 - IntKind.u64.wrap (q2 * a)) = r2)
    (n2 : KNum u2 v0 Y a b) (i2 : KInv u2 v0 Y a b q2 r2) (hQ2 : Hid ((u2 * 4294967296 + v0) / Y = Q2))
    (g1 : IntKind.u64.wrap (IntKind.u64.wrap (Q1 * 4294967296) + Q2) = t3) (g2 : IntKind.u64.wrap (IntKind.u64.wrap (u2 * 4294967296) + v0) = t4)
    (g3 : IntKind.u64.wrap (t4 - IntKind.u64.wrap (Q2 * Y)) = t5) (g4 : t5 / 2 ^ s.toNat = R)
    :
    Calls Try.prog 88 #[.int .u64 x, .int .u64 y, .int .u64 d] w fun e w' => e = .returned (.tuple #[.int .u64 t3, .int .u64 R]) ∧ w = w' := by
  have c1 : ¬ d ≤ x := by omega
  have c2 : (d == 0) = false := by simp; omega
  have c3 : (x == 0) = false := by simp; omega
  have N1 := Lib.hid n1
  have N2 := Lib.hid n2
  have I1 := Lib.hid i1
  have I2 := Lib.hid i2
  clear n1 n2 i1 i2
  go_enter Try.func88, Try.ntmps88
  go_wp2_with (go_at_call 89; refine (lz _).mono ?_; rintro e w' ⟨rfl, rfl⟩)
  go_loop [15, 16] (fun A B => ∃ q r : Int, A = .int .u64 q ∧ B = .int .u64 r ∧ Hid (KInv u v1 Y a b q r)) (fun A _ => (intOf A).toNat)
  case atStart => exact ⟨_, _, rfl, rfl, I1⟩
  case round =>
    obtain ⟨q, r, rfl, rfl, I⟩ := hrel
    by_cases h1 : 4294967296 ≤ q
    · have H := Lib.hid (Or.inl h1 : 4294967296 ≤ q ∨ 4294967296 * r + v1 < q * b)
      have hl := I.out.less N1.out H.out
      have hqb := I.out.q1
      have hr0 := I.out.r0
      have hr1 := I.out.r1
      have ha1 := N1.out.a1
      by_cases hr : r + a < 4294967296
      · have nx := Lib.hid (I.out.next N1.out H.out hr)
        obtain ⟨q', hq'⟩ : ∃ q' : Int, q - 1 = q' := ⟨_, rfl⟩
        obtain ⟨r', hr'⟩ : ∃ r' : Int, r + a = r' := ⟨_, rfl⟩
        rw [hq', hr'] at nx
        have w1 : IntKind.u64.wrap (q - 1) = q' := by rw [IntKind.wrap_u64]; omega
        have w2 : IntKind.u64.wrap (r + a) = r' := by rw [IntKind.wrap_u64]; omega
        have w3 : ¬ 4294967296 ≤ r' := by omega
        have hm : q'.toNat < q.toNat := by omega
        have M := Lib.hid hm
        clear hl hqb hr0 hr1 ha1 hr hq' hr' hm
        go_wp2
        go_round
        case rel => exact ⟨q', r', rfl, rfl, nx⟩
        case measure => (have hm := M.out; simp [intOf]; omega)
      · have bk := (I.out.broke N1.out H.out (by omega)).trans hQ1.out
        obtain ⟨r', hr'⟩ : ∃ r' : Int, r + a = r' := ⟨_, rfl⟩
        have w1 : IntKind.u64.wrap (q - 1) = Q1 := by rw [IntKind.wrap_u64]; omega
        have w2 : IntKind.u64.wrap (r + a) = r' := by rw [IntKind.wrap_u64]; omega
        have w3 : 4294967296 ≤ r' := by omega
        clear hl hqb hr0 hr1 ha1 hr hr' bk
        go_wp2
        go_loop [18, 16] (fun A B => ∃ q r : Int, A = .int .u64 q ∧ B = .int .u64 r ∧ Hid (KInv u2 v0 Y a b q r)) (fun A _ => (intOf A).toNat)
        case atStart => exact ⟨_, _, rfl, rfl, I2⟩
        case round =>
          obtain ⟨q, r, rfl, rfl, I⟩ := hrel
          by_cases h1 : 4294967296 ≤ q
          · have H := Lib.hid (Or.inl h1 : 4294967296 ≤ q ∨ 4294967296 * r + v0 < q * b)
            have hl := I.out.less N2.out H.out
            have hqb := I.out.q1
            have hr0 := I.out.r0
            have hr1 := I.out.r1
            have ha1 := N2.out.a1
            by_cases hr : r + a < 4294967296
            · have nx := Lib.hid (I.out.next N2.out H.out hr)
              obtain ⟨q', hq'⟩ : ∃ q' : Int, q - 1 = q' := ⟨_, rfl⟩
              obtain ⟨r', hr'⟩ : ∃ r' : Int, r + a = r' := ⟨_, rfl⟩
              rw [hq', hr'] at nx
              have w1 : IntKind.u64.wrap (q - 1) = q' := by rw [IntKind.wrap_u64]; omega
              have w2 : IntKind.u64.wrap (r + a) = r' := by rw [IntKind.wrap_u64]; omega
              have w3 : ¬ 4294967296 ≤ r' := by omega
              have hm : q'.toNat < q.toNat := by omega
              have M := Lib.hid hm
              clear hl hqb hr0 hr1 ha1 hr hq' hr' hm
              go_wp2
              go_round
              case rel => exact ⟨q', r', rfl, rfl, nx⟩
              case measure => (have hm := M.out; simp [intOf]; omega)
            · have bk := (I.out.broke N2.out H.out (by omega)).trans hQ2.out
              obtain ⟨r', hr'⟩ : ∃ r' : Int, r + a = r' := ⟨_, rfl⟩
              have w1 : IntKind.u64.wrap (q - 1) = Q2 := by rw [IntKind.wrap_u64]; omega
              have w2 : IntKind.u64.wrap (r + a) = r' := by rw [IntKind.wrap_u64]; omega
              have w3 : 4294967296 ≤ r' := by omega
              clear hl hqb hr0 hr1 ha1 hr hr' bk
              go_wp2
              go_ret2
              exact ⟨rfl, rfl⟩
          · obtain ⟨k0, k1⟩ := I.out.qb N2.out h1
            have k2 := I.out.r0
            have k3 := I.out.r1
            have k4 := N2.out.v0
            have k5 := N2.out.v1
            obtain ⟨x1, hx1⟩ : ∃ x1 : Int, q * b = x1 := ⟨_, rfl⟩
            obtain ⟨x2, hx2⟩ : ∃ x2 : Int, 4294967296 * r + v0 = x2 := ⟨_, rfl⟩
            have w5 : IntKind.u64.wrap (q * b) = x1 := by rw [IntKind.wrap_u64]; omega
            have w6 : IntKind.u64.wrap (IntKind.u64.wrap (4294967296 * r) + v0) = x2 := by simp only [IntKind.wrap_u64]; omega
            by_cases h2 : x2 < x1
            · have H := Lib.hid (Or.inr (by omega) : 4294967296 ≤ q ∨ 4294967296 * r + v0 < q * b)
              clear k0 k1 k2 k3 k4 k5 hx1 hx2
              have hl := I.out.less N2.out H.out
              have hqb := I.out.q1
              have hr0 := I.out.r0
              have hr1 := I.out.r1
              have ha1 := N2.out.a1
              by_cases hr : r + a < 4294967296
              · have nx := Lib.hid (I.out.next N2.out H.out hr)
                obtain ⟨q', hq'⟩ : ∃ q' : Int, q - 1 = q' := ⟨_, rfl⟩
                obtain ⟨r', hr'⟩ : ∃ r' : Int, r + a = r' := ⟨_, rfl⟩
                rw [hq', hr'] at nx
                have w1 : IntKind.u64.wrap (q - 1) = q' := by rw [IntKind.wrap_u64]; omega
                have w2 : IntKind.u64.wrap (r + a) = r' := by rw [IntKind.wrap_u64]; omega
                have w3 : ¬ 4294967296 ≤ r' := by omega
                have hm : q'.toNat < q.toNat := by omega
                have M := Lib.hid hm
                clear hl hqb hr0 hr1 ha1 hr hq' hr' hm
                go_wp2
                go_round
                case rel => exact ⟨q', r', rfl, rfl, nx⟩
                case measure => (have hm := M.out; simp [intOf]; omega)
              · have bk := (I.out.broke N2.out H.out (by omega)).trans hQ2.out
                obtain ⟨r', hr'⟩ : ∃ r' : Int, r + a = r' := ⟨_, rfl⟩
                have w1 : IntKind.u64.wrap (q - 1) = Q2 := by rw [IntKind.wrap_u64]; omega
                have w2 : IntKind.u64.wrap (r + a) = r' := by rw [IntKind.wrap_u64]; omega
                have w3 : 4294967296 ≤ r' := by omega
                clear hl hqb hr0 hr1 ha1 hr hr' bk
                go_wp2
                go_ret2
                exact ⟨rfl, rfl⟩
            · have dn := (I.out.done N2.out (by omega)).trans hQ2.out
              subst dn
              clear k0 k1 k2 k3 k4 k5 hx1 hx2
              go_wp2
              go_ret2
              exact ⟨rfl, rfl⟩
    · obtain ⟨k0, k1⟩ := I.out.qb N1.out h1
      have k2 := I.out.r0
      have k3 := I.out.r1
      have k4 := N1.out.v0
      have k5 := N1.out.v1
      obtain ⟨x1, hx1⟩ : ∃ x1 : Int, q * b = x1 := ⟨_, rfl⟩
      obtain ⟨x2, hx2⟩ : ∃ x2 : Int, 4294967296 * r + v1 = x2 := ⟨_, rfl⟩
      have w5 : IntKind.u64.wrap (q * b) = x1 := by rw [IntKind.wrap_u64]; omega
      have w6 : IntKind.u64.wrap (IntKind.u64.wrap (4294967296 * r) + v1) = x2 := by simp only [IntKind.wrap_u64]; omega
      by_cases h2 : x2 < x1
      · have H := Lib.hid (Or.inr (by omega) : 4294967296 ≤ q ∨ 4294967296 * r + v1 < q * b)
        clear k0 k1 k2 k3 k4 k5 hx1 hx2
        have hl := I.out.less N1.out H.out
        have hqb := I.out.q1
        have hr0 := I.out.r0
        have hr1 := I.out.r1
        have ha1 := N1.out.a1
        by_cases hr : r + a < 4294967296
        · have nx := Lib.hid (I.out.next N1.out H.out hr)
          obtain ⟨q', hq'⟩ : ∃ q' : Int, q - 1 = q' := ⟨_, rfl⟩
          obtain ⟨r', hr'⟩ : ∃ r' : Int, r + a = r' := ⟨_, rfl⟩
          rw [hq', hr'] at nx
          have w1 : IntKind.u64.wrap (q - 1) = q' := by rw [IntKind.wrap_u64]; omega
          have w2 : IntKind.u64.wrap (r + a) = r' := by rw [IntKind.wrap_u64]; omega
          have w3 : ¬ 4294967296 ≤ r' := by omega
          have hm : q'.toNat < q.toNat := by omega
          have M := Lib.hid hm
          clear hl hqb hr0 hr1 ha1 hr hq' hr' hm
          go_wp2
          go_round
          case rel => exact ⟨q', r', rfl, rfl, nx⟩
          case measure => (have hm := M.out; simp [intOf]; omega)
        · have bk := (I.out.broke N1.out H.out (by omega)).trans hQ1.out
          obtain ⟨r', hr'⟩ : ∃ r' : Int, r + a = r' := ⟨_, rfl⟩
          have w1 : IntKind.u64.wrap (q - 1) = Q1 := by rw [IntKind.wrap_u64]; omega
          have w2 : IntKind.u64.wrap (r + a) = r' := by rw [IntKind.wrap_u64]; omega
          have w3 : 4294967296 ≤ r' := by omega
          clear hl hqb hr0 hr1 ha1 hr hr' bk
          go_wp2
          go_loop [18, 16] (fun A B => ∃ q r : Int, A = .int .u64 q ∧ B = .int .u64 r ∧ Hid (KInv u2 v0 Y a b q r)) (fun A _ => (intOf A).toNat)
          case atStart => exact ⟨_, _, rfl, rfl, I2⟩
          case round =>
            obtain ⟨q, r, rfl, rfl, I⟩ := hrel
            by_cases h1 : 4294967296 ≤ q
            · have H := Lib.hid (Or.inl h1 : 4294967296 ≤ q ∨ 4294967296 * r + v0 < q * b)
              have hl := I.out.less N2.out H.out
              have hqb := I.out.q1
              have hr0 := I.out.r0
              have hr1 := I.out.r1
              have ha1 := N2.out.a1
              by_cases hr : r + a < 4294967296
              · have nx := Lib.hid (I.out.next N2.out H.out hr)
                obtain ⟨q', hq'⟩ : ∃ q' : Int, q - 1 = q' := ⟨_, rfl⟩
                obtain ⟨r', hr'⟩ : ∃ r' : Int, r + a = r' := ⟨_, rfl⟩
                rw [hq', hr'] at nx
                have w1 : IntKind.u64.wrap (q - 1) = q' := by rw [IntKind.wrap_u64]; omega
                have w2 : IntKind.u64.wrap (r + a) = r' := by rw [IntKind.wrap_u64]; omega
                have w3 : ¬ 4294967296 ≤ r' := by omega
                have hm : q'.toNat < q.toNat := by omega
                have M := Lib.hid hm
                clear hl hqb hr0 hr1 ha1 hr hq' hr' hm
                go_wp2
                go_round
                case rel => exact ⟨q', r', rfl, rfl, nx⟩
                case measure => (have hm := M.out; simp [intOf]; omega)
              · have bk := (I.out.broke N2.out H.out (by omega)).trans hQ2.out
                obtain ⟨r', hr'⟩ : ∃ r' : Int, r + a = r' := ⟨_, rfl⟩
                have w1 : IntKind.u64.wrap (q - 1) = Q2 := by rw [IntKind.wrap_u64]; omega
                have w2 : IntKind.u64.wrap (r + a) = r' := by rw [IntKind.wrap_u64]; omega
                have w3 : 4294967296 ≤ r' := by omega
                clear hl hqb hr0 hr1 ha1 hr hr' bk
                go_wp2
                go_ret2
                exact ⟨rfl, rfl⟩
            · obtain ⟨k0, k1⟩ := I.out.qb N2.out h1
              have k2 := I.out.r0
              have k3 := I.out.r1
              have k4 := N2.out.v0
              have k5 := N2.out.v1
              obtain ⟨x1, hx1⟩ : ∃ x1 : Int, q * b = x1 := ⟨_, rfl⟩
              obtain ⟨x2, hx2⟩ : ∃ x2 : Int, 4294967296 * r + v0 = x2 := ⟨_, rfl⟩
              have w5 : IntKind.u64.wrap (q * b) = x1 := by rw [IntKind.wrap_u64]; omega
              have w6 : IntKind.u64.wrap (IntKind.u64.wrap (4294967296 * r) + v0) = x2 := by simp only [IntKind.wrap_u64]; omega
              by_cases h2 : x2 < x1
              · have H := Lib.hid (Or.inr (by omega) : 4294967296 ≤ q ∨ 4294967296 * r + v0 < q * b)
                clear k0 k1 k2 k3 k4 k5 hx1 hx2
                have hl := I.out.less N2.out H.out
                have hqb := I.out.q1
                have hr0 := I.out.r0
                have hr1 := I.out.r1
                have ha1 := N2.out.a1
                by_cases hr : r + a < 4294967296
                · have nx := Lib.hid (I.out.next N2.out H.out hr)
                  obtain ⟨q', hq'⟩ : ∃ q' : Int, q - 1 = q' := ⟨_, rfl⟩
                  obtain ⟨r', hr'⟩ : ∃ r' : Int, r + a = r' := ⟨_, rfl⟩
                  rw [hq', hr'] at nx
                  have w1 : IntKind.u64.wrap (q - 1) = q' := by rw [IntKind.wrap_u64]; omega
                  have w2 : IntKind.u64.wrap (r + a) = r' := by rw [IntKind.wrap_u64]; omega
                  have w3 : ¬ 4294967296 ≤ r' := by omega
                  have hm : q'.toNat < q.toNat := by omega
                  have M := Lib.hid hm
                  clear hl hqb hr0 hr1 ha1 hr hq' hr' hm
                  go_wp2
                  go_round
                  case rel => exact ⟨q', r', rfl, rfl, nx⟩
                  case measure => (have hm := M.out; simp [intOf]; omega)
                · have bk := (I.out.broke N2.out H.out (by omega)).trans hQ2.out
                  obtain ⟨r', hr'⟩ : ∃ r' : Int, r + a = r' := ⟨_, rfl⟩
                  have w1 : IntKind.u64.wrap (q - 1) = Q2 := by rw [IntKind.wrap_u64]; omega
                  have w2 : IntKind.u64.wrap (r + a) = r' := by rw [IntKind.wrap_u64]; omega
                  have w3 : 4294967296 ≤ r' := by omega
                  clear hl hqb hr0 hr1 ha1 hr hr' bk
                  go_wp2
                  go_ret2
                  exact ⟨rfl, rfl⟩
              · have dn := (I.out.done N2.out (by omega)).trans hQ2.out
                subst dn
                clear k0 k1 k2 k3 k4 k5 hx1 hx2
                go_wp2
                go_ret2
                exact ⟨rfl, rfl⟩
      · have dn := (I.out.done N1.out (by omega)).trans hQ1.out
        subst dn
        clear k0 k1 k2 k3 k4 k5 hx1 hx2
        go_wp2
        go_loop [18, 16] (fun A B => ∃ q r : Int, A = .int .u64 q ∧ B = .int .u64 r ∧ Hid (KInv u2 v0 Y a b q r)) (fun A _ => (intOf A).toNat)
        case atStart => exact ⟨_, _, rfl, rfl, I2⟩
        case round =>
          obtain ⟨q, r, rfl, rfl, I⟩ := hrel
          by_cases h1 : 4294967296 ≤ q
          · have H := Lib.hid (Or.inl h1 : 4294967296 ≤ q ∨ 4294967296 * r + v0 < q * b)
            have hl := I.out.less N2.out H.out
            have hqb := I.out.q1
            have hr0 := I.out.r0
            have hr1 := I.out.r1
            have ha1 := N2.out.a1
            by_cases hr : r + a < 4294967296
            · have nx := Lib.hid (I.out.next N2.out H.out hr)
              obtain ⟨q', hq'⟩ : ∃ q' : Int, q - 1 = q' := ⟨_, rfl⟩
              obtain ⟨r', hr'⟩ : ∃ r' : Int, r + a = r' := ⟨_, rfl⟩
              rw [hq', hr'] at nx
              have w1 : IntKind.u64.wrap (q - 1) = q' := by rw [IntKind.wrap_u64]; omega
              have w2 : IntKind.u64.wrap (r + a) = r' := by rw [IntKind.wrap_u64]; omega
              have w3 : ¬ 4294967296 ≤ r' := by omega
              have hm : q'.toNat < q.toNat := by omega
              have M := Lib.hid hm
              clear hl hqb hr0 hr1 ha1 hr hq' hr' hm
              go_wp2
              go_round
              case rel => exact ⟨q', r', rfl, rfl, nx⟩
              case measure => (have hm := M.out; simp [intOf]; omega)
            · have bk := (I.out.broke N2.out H.out (by omega)).trans hQ2.out
              obtain ⟨r', hr'⟩ : ∃ r' : Int, r + a = r' := ⟨_, rfl⟩
              have w1 : IntKind.u64.wrap (q - 1) = Q2 := by rw [IntKind.wrap_u64]; omega
              have w2 : IntKind.u64.wrap (r + a) = r' := by rw [IntKind.wrap_u64]; omega
              have w3 : 4294967296 ≤ r' := by omega
              clear hl hqb hr0 hr1 ha1 hr hr' bk
              go_wp2
              go_ret2
              exact ⟨rfl, rfl⟩
          · obtain ⟨k0, k1⟩ := I.out.qb N2.out h1
            have k2 := I.out.r0
            have k3 := I.out.r1
            have k4 := N2.out.v0
            have k5 := N2.out.v1
            obtain ⟨x1, hx1⟩ : ∃ x1 : Int, q * b = x1 := ⟨_, rfl⟩
            obtain ⟨x2, hx2⟩ : ∃ x2 : Int, 4294967296 * r + v0 = x2 := ⟨_, rfl⟩
            have w5 : IntKind.u64.wrap (q * b) = x1 := by rw [IntKind.wrap_u64]; omega
            have w6 : IntKind.u64.wrap (IntKind.u64.wrap (4294967296 * r) + v0) = x2 := by simp only [IntKind.wrap_u64]; omega
            by_cases h2 : x2 < x1
            · have H := Lib.hid (Or.inr (by omega) : 4294967296 ≤ q ∨ 4294967296 * r + v0 < q * b)
              clear k0 k1 k2 k3 k4 k5 hx1 hx2
              have hl := I.out.less N2.out H.out
              have hqb := I.out.q1
              have hr0 := I.out.r0
              have hr1 := I.out.r1
              have ha1 := N2.out.a1
              by_cases hr : r + a < 4294967296
              · have nx := Lib.hid (I.out.next N2.out H.out hr)
                obtain ⟨q', hq'⟩ : ∃ q' : Int, q - 1 = q' := ⟨_, rfl⟩
                obtain ⟨r', hr'⟩ : ∃ r' : Int, r + a = r' := ⟨_, rfl⟩
                rw [hq', hr'] at nx
                have w1 : IntKind.u64.wrap (q - 1) = q' := by rw [IntKind.wrap_u64]; omega
                have w2 : IntKind.u64.wrap (r + a) = r' := by rw [IntKind.wrap_u64]; omega
                have w3 : ¬ 4294967296 ≤ r' := by omega
                have hm : q'.toNat < q.toNat := by omega
                have M := Lib.hid hm
                clear hl hqb hr0 hr1 ha1 hr hq' hr' hm
                go_wp2
                go_round
                case rel => exact ⟨q', r', rfl, rfl, nx⟩
                case measure => (have hm := M.out; simp [intOf]; omega)
              · have bk := (I.out.broke N2.out H.out (by omega)).trans hQ2.out
                obtain ⟨r', hr'⟩ : ∃ r' : Int, r + a = r' := ⟨_, rfl⟩
                have w1 : IntKind.u64.wrap (q - 1) = Q2 := by rw [IntKind.wrap_u64]; omega
                have w2 : IntKind.u64.wrap (r + a) = r' := by rw [IntKind.wrap_u64]; omega
                have w3 : 4294967296 ≤ r' := by omega
                clear hl hqb hr0 hr1 ha1 hr hr' bk
                go_wp2
                go_ret2
                exact ⟨rfl, rfl⟩
            · have dn := (I.out.done N2.out (by omega)).trans hQ2.out
              subst dn
              clear k0 k1 k2 k3 k4 k5 hx1 hx2
              go_wp2
              go_ret2
              exact ⟨rfl, rfl⟩
end Go.Proofs.Ytokcdlcmamdloaa
