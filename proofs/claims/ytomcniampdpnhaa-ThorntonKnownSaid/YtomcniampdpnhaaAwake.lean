/- Contract of awake: it answers true. -/
import Derived.Test.YtomcniampdpnhaaDiag
import Derived.Test.YtomcniampdpnhaaEq
import Derived.Test.YtomcniampdpnhaaLaw
namespace Go.Proofs.Ytomcniampdpnhaa
open Go.RowKit
set_option maxRecDepth 100000
/-- The covariance of awake's first lines. -/
def awL0 : Nat → Int := fun i => if i = 0 then 17592186044416 else 0
def awL1 : Nat → Int := fun _ => 1
def awF : Nat → Int := stepF (newF 1 awL0) oneF (copyF 2 awL1)
theorem awN_diag : DiagF (newF 1 awL0) := by
  constructor
  · intro x hx; unfold newF; rw [if_pos hx]
  · intro i hi
    unfold newF
    rw [if_neg (by omega), show 276 + i - 276 = i by omega]
    by_cases h : i < 1
    · rw [if_pos h, show i = 0 by omega]; decide
    · rw [if_neg h]; decide
theorem awN_at {i : Nat} (hi : i < 24) : newF 1 awL0 (276 + i) = if i = 0 then 17592186044416 else 1 := by
  unfold newF
  rw [if_neg (by omega), show 276 + i - 276 = i by omega]
  by_cases h : i < 1
  · rw [if_pos h, show i = 0 by omega]; decide
  · rw [if_neg h, if_neg (by omega)]
theorem copy_at (i : Nat) : copyF 2 awL1 i = if i < 2 then 1 else 0 := rfl
theorem aw_step : (∀ x, x < 300 → awF x = if x < 276 then 0 else newF 1 awL0 x + copyF 2 awL1 (x - 276)) ∧ stepH (newF 1 awL0) oneF (copyF 2 awL1) = false :=
  step_diag awN_diag fun i hi => by
    rw [copy_at, awN_at hi]
    split <;> split <;> omega
theorem aw_at {i : Nat} (hi : i < 24) : awF (276 + i) = (if i = 0 then 17592186044416 else 1) + if i < 2 then 1 else 0 := by
  rw [aw_step.1 _ (by omega), if_neg (by omega), awN_at hi, show 276 + i - 276 = i by omega, copy_at]
theorem aw_diag : DiagF awF := by
  constructor
  · intro x hx; rw [aw_step.1 _ (by omega), if_pos hx]
  · intro i hi
    rw [aw_at hi]
    split <;> split <;> omega
theorem aw_again : (∀ x, x < 300 → stepF awF oneF (fun _ => 0) x = awF x) ∧ stepH awF oneF (fun _ => 0) = false := by
  have h := step_diag (q := fun _ => 0) aw_diag fun i hi => by have := aw_diag.2 i hi; constructor <;> omega
  refine ⟨fun x hx => ?_, h.2⟩
  rw [h.1 x hx]
  split
  · rename_i hx2; exact (aw_diag.1 x hx2).symm
  · exact Int.add_zero _
theorem awH_new : newH 1 awL0 = false := by decide
set_option maxHeartbeats 4000000 in
theorem awake_any (w : World) : Calls Try.prog 6 #[] w fun e w' => e = .returned (.bool true) ∧ Below w.heap.size w w' := by
  go_enter Try.func6, Try.ntmps6
  have hc0 : ((w.alloc (.cells #[.bool false] 32)).alloc (.cells #[.int .i64 17592186044416] 2)).cell? ⟨w.heap.size, 0, none⟩ = some (.bool false) := by simp [go_sem]
  have hf0 : ((w.alloc (.cells #[.bool false] 32)).alloc (.cells #[.int .i64 17592186044416] 2)).frozen? ⟨w.heap.size, 0, none⟩ = false := by simp [go_sem]
  have hL0 : Slc ((w.alloc (.cells #[.bool false] 32)).alloc (.cells #[.int .i64 17592186044416] 2)) (some ⟨w.heap.size + 1, 0, none⟩) 1 awL0 := by
    intro i hi
    obtain rfl : i = 0 := by omega
    exact ⟨_, _, rfl, by simp [go_sem, awL0]⟩
  have hb0 : Below w.heap.size w ((w.alloc (.cells #[.bool false] 32)).alloc (.cells #[.int .i64 17592186044416] 2)) := by (repeat (first | with_reducible exact Below.refl _ _ | with_reducible apply Below.drew | (with_reducible refine below_drewN ?_ _) | (with_reducible refine Below.alloc ?_ (by (try simp) <;> omega) _) | (with_reducible refine Below.setCell ?_ (by (try simp) <;> omega) _)))
  have N0 := Lib.hid (new_any _ false _ _ 1 awL0 _ hc0 hf0 hL0)
  have B0 := Lib.hid hb0
  have C0 := Lib.hid hc0
  have F0 := Lib.hid hf0
  have hcb := World.block_lt_of_cell? _ _ hc0
  clear hc0 hf0 hL0 hb0
  go_upto_region 3 with (first | (go_at_call 11; (refine N0.out.mono ?_); rintro e w2 ⟨rfl, hu2⟩; (rw [awH_new] at hu2); have rc2 := hu2.cellc C0.out; have rf2 := (hu2.frozen (World.block_lt_of_cell? _ _ C0.out)).trans F0.out; have hb2 : Below w2.heap.size w2 (w2.alloc (.cells #[.int .i64 1, .int .i64 1] 2)) := (Below.refl _ _).alloc (Nat.le_refl _) _; have rc3 := (hb2.cell (World.block_lt_of_cell? _ _ rc2)).trans rc2; have rf3 := (hb2.frozen (World.block_lt_of_cell? _ _ rc2)).trans rf2; have hL2 : Slc (w2.alloc (.cells #[.int .i64 1, .int .i64 1] 2)) (some ⟨w2.heap.size, 0, none⟩) 2 awL1 := (by intro i hi; refine ⟨_, _, rfl, ?_⟩; obtain rfl | rfl : i = 0 ∨ i = 1 := (by omega); simp [go_sem, awL1]; simp [go_sem, awL1]); have N2 := Lib.hid (with_any _ _ (newF 1 awL0) _ _ 2 awL1 _ rc3 rf3 hL2); have C3 := Lib.hid rc3; have F3 := Lib.hid rf3; have HU2 := Lib.hid hu2; have HB2 := Lib.hid hb2; clear hu2 rc2 rf2 hb2 rc3 rf3 hL2) | (go_at_call 9; (refine N2.out.mono ?_); rintro e w3 ⟨rfl, hu3⟩; (rw [aw_step.2] at hu3); have hu3' : Upd ⟨w.heap.size, 0, none⟩ false (w2.alloc (.cells #[.int .i64 1, .int .i64 1] 2)) w3 := hu3; have C4 := Lib.hid (hu3'.cellc C3.out); have F4 := Lib.hid ((hu3'.frozen (World.block_lt_of_cell? _ _ C3.out)).trans F3.out); have R3 : Blk (w3.alloc (.cells Try.zeroCells25 25)) w3.heap.size 25 300 (fun _ => 0) := (by rw [zcov]; exact Blk.new _ _ _ _); have HU3 := Lib.hid hu3'; clear hu3 hu3') | (refine wpList_store_row rfl 25 _ _ rfl w3.heap.size _ rfl rfl 25 _ R3 (icov.trans (by rw [arrv_size])) (by rw [arrv_size, arrv_size]) (oneCell_arrv _ _) ?_))
  obtain ⟨w4, hw4⟩ : ∃ x, x = ((w3.alloc (.cells Try.zeroCells25 25)).setRow w3.heap.size (arrv 300 awF)) := ⟨_, rfl⟩
  rw [show ((w3.alloc (.cells Try.zeroCells25 25)).setRow w3.heap.size (arrv 300 (stepF (newF 1 awL0) oneF (copyF 2 awL1)))) = w4 from hw4.symm]
  have M4 := Lib.hid (Blk.made zcov awF hw4)
  have C5 := Lib.hid ((M4.out.2.cell (World.block_lt_of_cell? _ _ C4.out)).trans C4.out)
  have F5 := Lib.hid ((M4.out.2.frozen (World.block_lt_of_cell? _ _ C4.out)).trans F4.out)
  clear hw4 R3
  go_upto_region 4 with (first | (go_at_call 10; (refine (one_any _).mono ?_); rintro e w5 ⟨rfl, hb5⟩; have HB5 := Lib.hid hb5; have R5 : Blk (w5.alloc (.cells Try.zeroCells27 27)) w5.heap.size 27 576 (fun _ => 0) := (by rw [zmat]; exact Blk.new _ _ _ _); clear hb5) | (refine wpList_store_row rfl 27 _ _ rfl w5.heap.size _ rfl rfl 27 _ R5 (imat.trans (by rw [arrv_size])) (by rw [arrv_size, arrv_size]) (oneCell_arrv _ _) ?_))
  obtain ⟨w6, hw6⟩ : ∃ x, x = ((w5.alloc (.cells Try.zeroCells27 27)).setRow w5.heap.size (arrv 576 oneF)) := ⟨_, rfl⟩
  rw [← hw6]
  have M6 := Lib.hid (Blk.made zmat oneF hw6)
  have B6 := Lib.hid (Below.after HB5.out M6.out.2)
  have C6 := Lib.hid ((B6.out.cell (World.block_lt_of_cell? _ _ C5.out)).trans C5.out)
  have F6 := Lib.hid ((B6.out.frozen (World.block_lt_of_cell? _ _ C5.out)).trans F5.out)
  have L2 := (M4.out.1.below B6.out)
  have L3 := M6.out.1
  clear hw6 R5
  have N6 : Hid (Calls Try.prog 7 #[.pointer (some ⟨w.heap.size, 0, none⟩), .agg (arrv 300 awF), .agg (arrv 576 oneF), .agg #[.int .i64 0, .int .i64 0, .int .i64 0, .int .i64 0, .int .i64 0, .int .i64 0, .int .i64 0, .int .i64 0, .int .i64 0, .int .i64 0, .int .i64 0, .int .i64 0, .int .i64 0, .int .i64 0, .int .i64 0, .int .i64 0, .int .i64 0, .int .i64 0, .int .i64 0, .int .i64 0, .int .i64 0, .int .i64 0, .int .i64 0, .int .i64 0]] w6 fun e w' => e = .returned (.agg (arrv 300 awF)) ∧ Upd ⟨w.heap.size, 0, none⟩ false w6 w') := by
    refine Lib.hid ?_
    rw [zcol]
    refine (step_any _ false awF oneF (fun _ => 0) w6 C6.out F6.out).mono ?_
    rintro e w' ⟨rfl, hu⟩
    refine ⟨by rw [arrv_congr aw_again.1], ?_⟩
    rw [aw_again.2] at hu
    exact hu
  go_upto_region 5 with (first | (refine wpList_load_row rfl 25 _ rfl w3.heap.size rfl 25 _ (0, 0) _ L2 Try.underlying25 rfl (icov.trans (by rw [arrv_size])) ?_) | (refine wpList_load_row rfl 27 _ rfl w5.heap.size rfl 27 _ (0, 0) _ L3 Try.underlying27 rfl (imat.trans (by rw [arrv_size])) ?_) | (go_at_call 7; (refine N6.out.mono ?_); rintro e w7 ⟨rfl, hu7⟩; have HU7 := Lib.hid hu7; have R7 : Blk (w7.alloc (.cells Try.zeroCells25 25)) w7.heap.size 25 300 (fun _ => 0) := (by rw [zcov]; exact Blk.new _ _ _ _); clear hu7) | (refine wpList_store_row rfl 25 _ _ rfl w7.heap.size _ rfl rfl 25 _ R7 (icov.trans (by rw [arrv_size])) (by rw [arrv_size, arrv_size]) (oneCell_arrv _ _) ?_))
  obtain ⟨w8, hw8⟩ : ∃ x, x = ((w7.alloc (.cells Try.zeroCells25 25)).setRow w7.heap.size (arrv 300 awF)) := ⟨_, rfl⟩
  rw [← hw8]
  have M8 := Lib.hid (Blk.made zcov awF hw8)
  have S6 := World.block_lt_of_cell? _ _ C6.out
  have L2' := Lib.hid ((L2.upd HU7.out (L2.flag C6.out)).below M8.out.2)
  have L3' := Lib.hid ((L3.upd HU7.out (L3.flag C6.out)).below M8.out.2)
  have C8 : w8.cell? ⟨w.heap.size, 0, none⟩ = some (.bool false) := by
    have := HU7.out.cellc C6.out
    exact (M8.out.2.cell (World.block_lt_of_cell? _ _ this)).trans this
  clear hw8 R7 L2 L3
  have L2 := L2'.out
  have L3 := L3'.out
  have L4 := M8.out.1
  have c0 := L2.cell (i := 276) (by omega)
  have c1 := L2.cell (i := 277) (by omega)
  have c2 := L2.cell (i := 278) (by omega)
  have c3 := L3.cell (i := 75) (by omega)
  have c4 := L3.cell (i := 1) (by omega)
  rw [show awF 276 = 17592186044417 from aw_at (i := 0) (by omega)] at c0
  rw [show awF 277 = 2 from aw_at (i := 1) (by omega)] at c1
  rw [show awF 278 = 1 from aw_at (i := 2) (by omega)] at c2
  rw [show oneF 75 = 1073741824 from rfl] at c3
  rw [show oneF 1 = 0 from rfl] at c4
  have hEq := Lib.hid (covB_self awF)
  refine wp_region_lit ?_
  refine wpList_val (v := ?_) rfl ?_ ?_
  rotate_left
  · (go_simp; (try (first | with_reducible rfl | (constructor <;> with_reducible rfl))))
  (try simp only [Act.put, List.setIfInBounds_toArray, List.set_cons_zero, List.set_cons_succ])
  refine wpList_val (v := ?_) rfl ?_ ?_
  rotate_left
  · (go_simp; (try (first | with_reducible rfl | (constructor <;> with_reducible rfl))))
  (try simp only [Act.put, List.setIfInBounds_toArray, List.set_cons_zero, List.set_cons_succ])
  refine wpList_val (v := ?_) rfl ?_ ?_
  rotate_left
  · (go_simp; (try (first | with_reducible rfl | (constructor <;> with_reducible rfl))))
  (try simp only [Act.put, List.setIfInBounds_toArray, List.set_cons_zero, List.set_cons_succ])
  refine wpList_val (v := ?_) rfl ?_ ?_
  rotate_left
  · (go_simp; (try (first | with_reducible rfl | (constructor <;> with_reducible rfl))))
  (try simp only [Act.put, List.setIfInBounds_toArray, List.set_cons_zero, List.set_cons_succ])
  refine wpList_val (v := ?_) rfl ?_ ?_
  rotate_left
  · (go_simp; (try (first | with_reducible rfl | (constructor <;> with_reducible rfl))))
  (try simp only [Act.put, List.setIfInBounds_toArray, List.set_cons_zero, List.set_cons_succ])
  refine wpList_val (v := ?_) (by rfl) ?_ ?_
  rotate_left
  · (go_simp; (try (first | with_reducible rfl | (constructor <;> with_reducible rfl))))
  (try simp only [Act.put, List.setIfInBounds_toArray, List.set_cons_zero, List.set_cons_succ])
  refine wpList_val (v := ?_) (by rfl) ?_ ?_
  rotate_left
  · (go_simp; (try (first | with_reducible rfl | (constructor <;> with_reducible rfl))))
  (try simp only [Act.put, List.setIfInBounds_toArray, List.set_cons_zero, List.set_cons_succ])
  refine wpList_val (v := ?_) (by rfl) ?_ ?_
  rotate_left
  · (go_simp; (try (first | with_reducible rfl | (constructor <;> with_reducible rfl))))
  (try simp only [Act.put, List.setIfInBounds_toArray, List.set_cons_zero, List.set_cons_succ])
  refine wpList_val (v := ?_) (by rfl) ?_ ?_
  rotate_left
  · (go_simp; (try (first | with_reducible rfl | (constructor <;> with_reducible rfl))))
  (try simp only [Act.put, List.setIfInBounds_toArray, List.set_cons_zero, List.set_cons_succ])
  refine wpList_val (v := ?_) rfl ?_ ?_
  rotate_left
  · (go_simp; (try (first | with_reducible rfl | (constructor <;> with_reducible rfl))))
  (try simp only [Act.put, List.setIfInBounds_toArray, List.set_cons_zero, List.set_cons_succ])
  refine wpList_val (v := ?_) rfl ?_ ?_
  rotate_left
  · (go_simp; (try (first | with_reducible rfl | (constructor <;> with_reducible rfl))))
  (try simp only [Act.put, List.setIfInBounds_toArray, List.set_cons_zero, List.set_cons_succ])
  refine wpList_val (v := ?_) (by rfl) ?_ ?_
  rotate_left
  · (go_simp; (try (first | with_reducible rfl | (constructor <;> with_reducible rfl))))
  (try simp only [Act.put, List.setIfInBounds_toArray, List.set_cons_zero, List.set_cons_succ])
  refine wpList_val (v := ?_) (by rfl) ?_ ?_
  rotate_left
  · (go_simp; (try (first | with_reducible rfl | (constructor <;> with_reducible rfl))))
  (try simp only [Act.put, List.setIfInBounds_toArray, List.set_cons_zero, List.set_cons_succ])
  refine wpList_val (v := ?_) (by rfl) ?_ ?_
  rotate_left
  · (go_simp; (try (first | with_reducible rfl | (constructor <;> with_reducible rfl))))
  (try simp only [Act.put, List.setIfInBounds_toArray, List.set_cons_zero, List.set_cons_succ])
  refine wpList_val (v := ?_) (by rfl) ?_ ?_
  rotate_left
  · (go_simp; (try (first | with_reducible rfl | (constructor <;> with_reducible rfl))))
  (try simp only [Act.put, List.setIfInBounds_toArray, List.set_cons_zero, List.set_cons_succ])
  refine wpList_val (v := ?_) rfl ?_ ?_
  rotate_left
  · (go_simp; (try (first | with_reducible rfl | (constructor <;> with_reducible rfl))))
  (try simp only [Act.put, List.setIfInBounds_toArray, List.set_cons_zero, List.set_cons_succ])
  refine wpList_val (v := ?_) rfl ?_ ?_
  rotate_left
  · (go_simp; (try (first | with_reducible rfl | (constructor <;> with_reducible rfl))))
  (try simp only [Act.put, List.setIfInBounds_toArray, List.set_cons_zero, List.set_cons_succ])
  refine wpList_val (v := ?_) (by rfl) ?_ ?_
  rotate_left
  · (go_simp; (try (first | with_reducible rfl | (constructor <;> with_reducible rfl))))
  (try simp only [Act.put, List.setIfInBounds_toArray, List.set_cons_zero, List.set_cons_succ])
  refine wpList_val (v := ?_) (by rfl) ?_ ?_
  rotate_left
  · (go_simp; (try (first | with_reducible rfl | (constructor <;> with_reducible rfl))))
  (try simp only [Act.put, List.setIfInBounds_toArray, List.set_cons_zero, List.set_cons_succ])
  refine wpList_val (v := ?_) (by rfl) ?_ ?_
  rotate_left
  · (go_simp; (try (first | with_reducible rfl | (constructor <;> with_reducible rfl))))
  (try simp only [Act.put, List.setIfInBounds_toArray, List.set_cons_zero, List.set_cons_succ])
  refine wpList_val (v := ?_) (by rfl) ?_ ?_
  rotate_left
  · (go_simp; (try (first | with_reducible rfl | (constructor <;> with_reducible rfl))))
  (try simp only [Act.put, List.setIfInBounds_toArray, List.set_cons_zero, List.set_cons_succ])
  refine wpList_val (v := ?_) rfl ?_ ?_
  rotate_left
  · (go_simp; (try (first | with_reducible rfl | (constructor <;> with_reducible rfl))))
  (try simp only [Act.put, List.setIfInBounds_toArray, List.set_cons_zero, List.set_cons_succ])
  refine wpList_val (v := ?_) rfl ?_ ?_
  rotate_left
  · (go_simp; (try (first | with_reducible rfl | (constructor <;> with_reducible rfl))))
  (try simp only [Act.put, List.setIfInBounds_toArray, List.set_cons_zero, List.set_cons_succ])
  refine wpList_val (v := ?_) (by rfl) ?_ ?_
  rotate_left
  · (go_simp; (try (first | with_reducible rfl | (constructor <;> with_reducible rfl))))
  (try simp only [Act.put, List.setIfInBounds_toArray, List.set_cons_zero, List.set_cons_succ])
  refine wpList_val (v := ?_) (by rfl) ?_ ?_
  rotate_left
  · (go_simp; (try (first | with_reducible rfl | (constructor <;> with_reducible rfl))))
  (try simp only [Act.put, List.setIfInBounds_toArray, List.set_cons_zero, List.set_cons_succ])
  refine wpList_val (v := ?_) (by rfl) ?_ ?_
  rotate_left
  · (go_simp; (try (first | with_reducible rfl | (constructor <;> with_reducible rfl))))
  (try simp only [Act.put, List.setIfInBounds_toArray, List.set_cons_zero, List.set_cons_succ])
  refine wpList_val (v := ?_) (by rfl) ?_ ?_
  rotate_left
  · (go_simp; (try (first | with_reducible rfl | (constructor <;> with_reducible rfl))))
  (try simp only [Act.put, List.setIfInBounds_toArray, List.set_cons_zero, List.set_cons_succ])
  refine wpList_val (v := ?_) rfl ?_ ?_
  rotate_left
  · (go_simp; (try (first | with_reducible rfl | (constructor <;> with_reducible rfl))))
  (try simp only [Act.put, List.setIfInBounds_toArray, List.set_cons_zero, List.set_cons_succ])
  refine wpList_val (v := ?_) rfl ?_ ?_
  rotate_left
  · (go_simp; (try (first | with_reducible rfl | (constructor <;> with_reducible rfl))))
  (try simp only [Act.put, List.setIfInBounds_toArray, List.set_cons_zero, List.set_cons_succ])
  refine wpList_val (v := ?_) (by rfl) ?_ ?_
  rotate_left
  · refine Eq.trans (run_load_row 25 (.tmp 4) (by rfl) w7.heap.size (by rfl) _ _ _ _ L4 Try.underlying25 rfl (icov.trans (by rw [arrv_size]))) ?_; with_reducible rfl
  (try simp only [Act.put, List.setIfInBounds_toArray, List.set_cons_zero, List.set_cons_succ])
  refine wpList_val (v := ?_) (by rfl) ?_ ?_
  rotate_left
  · refine Eq.trans (run_load_row 25 (.tmp 2) (by rfl) w3.heap.size (by rfl) _ _ _ _ L2 Try.underlying25 rfl (icov.trans (by rw [arrv_size]))) ?_; with_reducible rfl
  (try simp only [Act.put, List.setIfInBounds_toArray, List.set_cons_zero, List.set_cons_succ])
  refine wpList_val (v := ?_) (by rfl) ?_ ?_
  rotate_left
  · refine Eq.trans (run_op_eqlCov (.tmp 48) (.tmp 49) (by rfl) (by rfl) (by rfl) hEq.out) ?_; with_reducible rfl
  (try simp only [Act.put, List.setIfInBounds_toArray, List.set_cons_zero, List.set_cons_succ])
  refine wpList_val (v := ?_) rfl ?_ ?_
  rotate_left
  · (go_simp; (try (first | with_reducible rfl | (constructor <;> with_reducible rfl))))
  (try simp only [Act.put, List.setIfInBounds_toArray, List.set_cons_zero, List.set_cons_succ])
  refine wpList_val (v := ?_) rfl ?_ ?_
  rotate_left
  · (go_simp; (try (first | with_reducible rfl | (constructor <;> with_reducible rfl))))
  (try simp only [Act.put, List.setIfInBounds_toArray, List.set_cons_zero, List.set_cons_succ])
  refine wpList_val (v := ?_) (by rfl) ?_ ?_
  rotate_left
  · (go_simp; (try (first | with_reducible rfl | (constructor <;> with_reducible rfl))))
  (try simp only [Act.put, List.setIfInBounds_toArray, List.set_cons_zero, List.set_cons_succ])
  refine wpList_val (v := ?_) (by rfl) ?_ ?_
  rotate_left
  · (go_simp; (try (first | with_reducible rfl | (constructor <;> with_reducible rfl))))
  (try simp only [Act.put, List.setIfInBounds_toArray, List.set_cons_zero, List.set_cons_succ])
  refine wpList_val (v := ?_) (by rfl) ?_ ?_
  rotate_left
  · (go_simp; (try (first | with_reducible rfl | (constructor <;> with_reducible rfl))))
  (try simp only [Act.put, List.setIfInBounds_toArray, List.set_cons_zero, List.set_cons_succ])
  refine wpList_val (v := ?_) (by rfl) ?_ ?_
  rotate_left
  · (go_simp; (try (first | with_reducible rfl | (constructor <;> with_reducible rfl))))
  (try simp only [Act.put, List.setIfInBounds_toArray, List.set_cons_zero, List.set_cons_succ])
  refine wpList_val (v := ?_) (by rfl) ?_ ?_
  rotate_left
  · (go_simp; (try (first | with_reducible rfl | (constructor <;> with_reducible rfl))))
  (try simp only [Act.put, List.setIfInBounds_toArray, List.set_cons_zero, List.set_cons_succ])
  refine wpList_val (v := ?_) rfl ?_ ?_
  rotate_left
  · (go_simp; (try (first | with_reducible rfl | (constructor <;> with_reducible rfl))))
  (try simp only [Act.put, List.setIfInBounds_toArray, List.set_cons_zero, List.set_cons_succ])
  refine wpList_val (v := ?_) rfl ?_ ?_
  rotate_left
  · (go_simp; (try (first | with_reducible rfl | (constructor <;> with_reducible rfl))))
  (try simp only [Act.put, List.setIfInBounds_toArray, List.set_cons_zero, List.set_cons_succ])
  refine wpList_nil ?_
  go_wp2_with fail
  go_ret
  refine ⟨rfl, ?_⟩
  have b1 := Below.after B0.out (Below.refl _ _)
  have b2 := own_upd b1 (Nat.le_refl _) HU2.out
  have b3 := own_upd (Below.after b2 HB2.out) (Nat.le_refl _) HU3.out
  have b4 := own_upd (Below.after (Below.after b3 M4.out.2) B6.out) (Nat.le_refl _) HU7.out
  exact Below.after b4 M8.out.2
end Go.Proofs.Ytomcniampdpnhaa
