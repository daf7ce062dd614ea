/- Contracts of the program's functions and plain laws, part 7: they hold for all arguments. -/
import Derived.Test.YtcombidoaghlbaaQ06
import Derived.Test.YtcombidoaghlbaaQ04
import Derived.Laws.AppendOwn
import Derived.Test.YtcombidoaghlbaaProg
import Derived.Deep.AppendLies
import Derived.Outline
/- Contract of awake: it answers true. -/
namespace Go.Proofs.Ytcombidoaghlbaa
open Go.RowKit
set_option maxRecDepth 100000
/-- The covariance of awake's first lines. -/
def awL0 : Nat → Int := fun i => if i = 0 then 17592186044416 else 0
def awL1 : Nat → Int := fun _ => 1
def awF : Nat → Int := stepF (newF 1 awL0) oneF (copyF 2 awL1)
theorem awN_diag : DiagF (newF 1 awL0) := by
  constructor
  · intro x hx; unfold newF; rw [if_pos hx]
  · intro i hi
    unfold newF
    rw [if_neg (by omega), show 276 + i - 276 = i by omega]
    by_cases h : i < 1
    · rw [if_pos h, show i = 0 by omega]; decide
    · rw [if_neg h]; decide
theorem awN_at {i : Nat} (hi : i < 24) : newF 1 awL0 (276 + i) = if i = 0 then 17592186044416 else 1 := by
  unfold newF
  rw [if_neg (by omega), show 276 + i - 276 = i by omega]
  by_cases h : i < 1
  · rw [if_pos h, show i = 0 by omega]; decide
  · rw [if_neg h, if_neg (by omega)]
theorem copy_at (i : Nat) : copyF 2 awL1 i = if i < 2 then 1 else 0 := rfl
theorem aw_step : (∀ x, x < 300 → awF x = if x < 276 then 0 else newF 1 awL0 x + copyF 2 awL1 (x - 276)) ∧ stepH (newF 1 awL0) oneF (copyF 2 awL1) = false :=
  step_diag awN_diag fun i hi => by
    rw [copy_at, awN_at hi]
    split <;> split <;> omega
theorem aw_at {i : Nat} (hi : i < 24) : awF (276 + i) = (if i = 0 then 17592186044416 else 1) + if i < 2 then 1 else 0 := by
  rw [aw_step.1 _ (by omega), if_neg (by omega), awN_at hi, show 276 + i - 276 = i by omega, copy_at]
theorem aw_diag : DiagF awF := by
  constructor
  · intro x hx; rw [aw_step.1 _ (by omega), if_pos hx]
  · intro i hi
    rw [aw_at hi]
    split <;> split <;> omega
theorem aw_again : (∀ x, x < 300 → stepF awF oneF (fun _ => 0) x = awF x) ∧ stepH awF oneF (fun _ => 0) = false := by
  have h := step_diag (q := fun _ => 0) aw_diag fun i hi => by have := aw_diag.2 i hi; constructor <;> omega
  refine ⟨fun x hx => ?_, h.2⟩
  rw [h.1 x hx]
  split
  · rename_i hx2; exact (aw_diag.1 x hx2).symm
  · exact Int.add_zero _
theorem awH_new : newH 1 awL0 = false := by decide
set_option maxHeartbeats 4000000 in
theorem awake_any (w : World) : Calls Try.prog 7 #[] w fun e w' => e = .returned (.bool true) ∧ Below w.heap.size w w' := by
  go_enter Try.func7, Try.ntmps7
  have hc0 : ((w.alloc (.cells #[.bool false] 32)).alloc (.cells #[.int .i64 17592186044416] 2)).cell? ⟨w.heap.size, 0, none⟩ = some (.bool false) := by simp [go_sem]
  have hf0 : ((w.alloc (.cells #[.bool false] 32)).alloc (.cells #[.int .i64 17592186044416] 2)).frozen? ⟨w.heap.size, 0, none⟩ = false := by simp [go_sem]
  have hL0 : Slc ((w.alloc (.cells #[.bool false] 32)).alloc (.cells #[.int .i64 17592186044416] 2)) (some ⟨w.heap.size + 1, 0, none⟩) 1 awL0 := by
    intro i hi
    obtain rfl : i = 0 := by omega
    exact ⟨_, _, rfl, by simp [go_sem, awL0]⟩
  have hb0 : Below w.heap.size w ((w.alloc (.cells #[.bool false] 32)).alloc (.cells #[.int .i64 17592186044416] 2)) := by (repeat (first | with_reducible exact Below.refl _ _ | with_reducible apply Below.drew | (with_reducible refine below_drewN ?_ _) | (with_reducible refine Below.alloc ?_ (by (try simp) <;> omega) _) | (with_reducible refine Below.setCell ?_ (by (try simp) <;> omega) _)))
  have N0 := Lib.hid (new_any _ false _ _ 1 awL0 _ hc0 hf0 hL0)
  have B0 := Lib.hid hb0
  have C0 := Lib.hid hc0
  have F0 := Lib.hid hf0
  have hcb := World.block_lt_of_cell? _ _ hc0
  clear hc0 hf0 hL0 hb0
  go_upto_region 3 with (first | (go_at_call 20; (refine N0.out.mono ?_); rintro e w2 ⟨rfl, hu2⟩; (rw [awH_new] at hu2); have rc2 := hu2.cellc C0.out; have rf2 := (hu2.frozen (World.block_lt_of_cell? _ _ C0.out)).trans F0.out; have hb2 : Below w2.heap.size w2 (w2.alloc (.cells #[.int .i64 1, .int .i64 1] 2)) := (Below.refl _ _).alloc (Nat.le_refl _) _; have rc3 := (hb2.cell (World.block_lt_of_cell? _ _ rc2)).trans rc2; have rf3 := (hb2.frozen (World.block_lt_of_cell? _ _ rc2)).trans rf2; have hL2 : Slc (w2.alloc (.cells #[.int .i64 1, .int .i64 1] 2)) (some ⟨w2.heap.size, 0, none⟩) 2 awL1 := (by intro i hi; refine ⟨_, _, rfl, ?_⟩; obtain rfl | rfl : i = 0 ∨ i = 1 := (by omega); simp [go_sem, awL1]; simp [go_sem, awL1]); have N2 := Lib.hid (with_any _ _ (newF 1 awL0) _ _ 2 awL1 _ rc3 rf3 hL2); have C3 := Lib.hid rc3; have F3 := Lib.hid rf3; have HU2 := Lib.hid hu2; have HB2 := Lib.hid hb2; clear hu2 rc2 rf2 hb2 rc3 rf3 hL2) | (go_at_call 19; (refine N2.out.mono ?_); rintro e w3 ⟨rfl, hu3⟩; (rw [aw_step.2] at hu3); have hu3' : Upd ⟨w.heap.size, 0, none⟩ false (w2.alloc (.cells #[.int .i64 1, .int .i64 1] 2)) w3 := hu3; have C4 := Lib.hid (hu3'.cellc C3.out); have F4 := Lib.hid ((hu3'.frozen (World.block_lt_of_cell? _ _ C3.out)).trans F3.out); have R3 : Blk (w3.alloc (.cells Try.zeroCells25 25)) w3.heap.size 25 300 (fun _ => 0) := (by rw [zcov]; exact Blk.new _ _ _ _); have HU3 := Lib.hid hu3'; clear hu3 hu3') | (refine wpList_store_row rfl 25 _ _ rfl w3.heap.size _ rfl rfl 25 _ R3 (icov.trans (by rw [arrv_size])) (by rw [arrv_size, arrv_size]) (oneCell_arrv _ _) ?_))
  obtain ⟨w4, hw4⟩ : ∃ x, x = ((w3.alloc (.cells Try.zeroCells25 25)).setRow w3.heap.size (arrv 300 awF)) := ⟨_, rfl⟩
  rw [show ((w3.alloc (.cells Try.zeroCells25 25)).setRow w3.heap.size (arrv 300 (stepF (newF 1 awL0) oneF (copyF 2 awL1)))) = w4 from hw4.symm]
  have M4 := Lib.hid (Blk.made zcov awF hw4)
  have C5 := Lib.hid ((M4.out.2.cell (World.block_lt_of_cell? _ _ C4.out)).trans C4.out)
  have F5 := Lib.hid ((M4.out.2.frozen (World.block_lt_of_cell? _ _ C4.out)).trans F4.out)
  clear hw4 R3
  go_upto_region 4 with (first | (go_at_call 12; (refine (one_any _).mono ?_); rintro e w5 ⟨rfl, hb5⟩; have HB5 := Lib.hid hb5; have R5 : Blk (w5.alloc (.cells Try.zeroCells27 27)) w5.heap.size 27 576 (fun _ => 0) := (by rw [zmat]; exact Blk.new _ _ _ _); clear hb5) | (refine wpList_store_row rfl 27 _ _ rfl w5.heap.size _ rfl rfl 27 _ R5 (imat.trans (by rw [arrv_size])) (by rw [arrv_size, arrv_size]) (oneCell_arrv _ _) ?_))
  obtain ⟨w6, hw6⟩ : ∃ x, x = ((w5.alloc (.cells Try.zeroCells27 27)).setRow w5.heap.size (arrv 576 oneF)) := ⟨_, rfl⟩
  rw [← hw6]
  have M6 := Lib.hid (Blk.made zmat oneF hw6)
  have B6 := Lib.hid (Below.after HB5.out M6.out.2)
  have C6 := Lib.hid ((B6.out.cell (World.block_lt_of_cell? _ _ C5.out)).trans C5.out)
  have F6 := Lib.hid ((B6.out.frozen (World.block_lt_of_cell? _ _ C5.out)).trans F5.out)
  have L2 := (M4.out.1.below B6.out)
  have L3 := M6.out.1
  clear hw6 R5
  have N6 : Hid (Calls Try.prog 9 #[.pointer (some ⟨w.heap.size, 0, none⟩), .agg (arrv 300 awF), .agg (arrv 576 oneF), .agg #[.int .i64 0, .int .i64 0, .int .i64 0, .int .i64 0, .int .i64 0, .int .i64 0, .int .i64 0, .int .i64 0, .int .i64 0, .int .i64 0, .int .i64 0, .int .i64 0, .int .i64 0, .int .i64 0, .int .i64 0, .int .i64 0, .int .i64 0, .int .i64 0, .int .i64 0, .int .i64 0, .int .i64 0, .int .i64 0, .int .i64 0, .int .i64 0]] w6 fun e w' => e = .returned (.agg (arrv 300 awF)) ∧ Upd ⟨w.heap.size, 0, none⟩ false w6 w') := by
    refine Lib.hid ?_
    rw [zcol]
    refine (step_any _ false awF oneF (fun _ => 0) w6 C6.out F6.out).mono ?_
    rintro e w' ⟨rfl, hu⟩
    refine ⟨by rw [arrv_congr aw_again.1], ?_⟩
    rw [aw_again.2] at hu
    exact hu
  go_upto_region 5 with (first | (refine wpList_load_row rfl 25 _ rfl w3.heap.size rfl 25 _ (0, 0) _ L2 Try.underlying25 rfl (icov.trans (by rw [arrv_size])) ?_) | (refine wpList_load_row rfl 27 _ rfl w5.heap.size rfl 27 _ (0, 0) _ L3 Try.underlying27 rfl (imat.trans (by rw [arrv_size])) ?_) | (go_at_call 9; (refine N6.out.mono ?_); rintro e w7 ⟨rfl, hu7⟩; have HU7 := Lib.hid hu7; have R7 : Blk (w7.alloc (.cells Try.zeroCells25 25)) w7.heap.size 25 300 (fun _ => 0) := (by rw [zcov]; exact Blk.new _ _ _ _); clear hu7) | (refine wpList_store_row rfl 25 _ _ rfl w7.heap.size _ rfl rfl 25 _ R7 (icov.trans (by rw [arrv_size])) (by rw [arrv_size, arrv_size]) (oneCell_arrv _ _) ?_))
  obtain ⟨w8, hw8⟩ : ∃ x, x = ((w7.alloc (.cells Try.zeroCells25 25)).setRow w7.heap.size (arrv 300 awF)) := ⟨_, rfl⟩
  rw [← hw8]
  have M8 := Lib.hid (Blk.made zcov awF hw8)
  have S6 := World.block_lt_of_cell? _ _ C6.out
  have L2' := Lib.hid ((L2.upd HU7.out (L2.flag C6.out)).below M8.out.2)
  have L3' := Lib.hid ((L3.upd HU7.out (L3.flag C6.out)).below M8.out.2)
  have C8 : w8.cell? ⟨w.heap.size, 0, none⟩ = some (.bool false) := by
    have := HU7.out.cellc C6.out
    exact (M8.out.2.cell (World.block_lt_of_cell? _ _ this)).trans this
  clear hw8 R7 L2 L3
  have L2 := L2'.out
  have L3 := L3'.out
  have L4 := M8.out.1
  have c0 := L2.cell (i := 276) (by omega)
  have c1 := L2.cell (i := 277) (by omega)
  have c2 := L2.cell (i := 278) (by omega)
  have c3 := L3.cell (i := 75) (by omega)
  have c4 := L3.cell (i := 1) (by omega)
  rw [show awF 276 = 17592186044417 from aw_at (i := 0) (by omega)] at c0
  rw [show awF 277 = 2 from aw_at (i := 1) (by omega)] at c1
  rw [show awF 278 = 1 from aw_at (i := 2) (by omega)] at c2
  rw [show oneF 75 = 1073741824 from rfl] at c3
  rw [show oneF 1 = 0 from rfl] at c4
  have hEq := Lib.hid (covB_self awF)
  refine wp_region_lit ?_
  refine wpList_val (v := ?_) rfl ?_ ?_
  rotate_left
  · (go_simp; (try (first | with_reducible rfl | (constructor <;> with_reducible rfl))))
  (try simp only [Act.put, nA, nB, nC])
  refine wpList_val (v := ?_) rfl ?_ ?_
  rotate_left
  · (go_simp; (try (first | with_reducible rfl | (constructor <;> with_reducible rfl))))
  (try simp only [Act.put, nA, nB, nC])
  refine wpList_val (v := ?_) rfl ?_ ?_
  rotate_left
  · (go_simp; (try (first | with_reducible rfl | (constructor <;> with_reducible rfl))))
  (try simp only [Act.put, nA, nB, nC])
  refine wpList_val (v := ?_) rfl ?_ ?_
  rotate_left
  · (go_simp; (try (first | with_reducible rfl | (constructor <;> with_reducible rfl))))
  (try simp only [Act.put, nA, nB, nC])
  refine wpList_val (v := ?_) rfl ?_ ?_
  rotate_left
  · (go_simp; (try (first | with_reducible rfl | (constructor <;> with_reducible rfl))))
  (try simp only [Act.put, nA, nB, nC])
  first | (refine wpList_val (v := ?_) (by rfl) ?_ ?_; rotate_left; focus ((go_simp; (try (first | with_reducible rfl | (constructor <;> with_reducible rfl)))))) | refine wpList_skip (by rfl) ?_
  (try simp only [Act.put, nA, nB, nC])
  first | (refine wpList_val (v := ?_) (by rfl) ?_ ?_; rotate_left; focus ((go_simp; (try (first | with_reducible rfl | (constructor <;> with_reducible rfl)))))) | refine wpList_skip (by rfl) ?_
  (try simp only [Act.put, nA, nB, nC])
  first | (refine wpList_val (v := ?_) (by rfl) ?_ ?_; rotate_left; focus ((go_simp; (try (first | with_reducible rfl | (constructor <;> with_reducible rfl)))))) | refine wpList_skip (by rfl) ?_
  (try simp only [Act.put, nA, nB, nC])
  first | (refine wpList_val (v := ?_) (by rfl) ?_ ?_; rotate_left; focus ((go_simp; (try (first | with_reducible rfl | (constructor <;> with_reducible rfl)))))) | refine wpList_skip (by rfl) ?_
  (try simp only [Act.put, nA, nB, nC])
  refine wpList_val (v := ?_) rfl ?_ ?_
  rotate_left
  · (go_simp; (try (first | with_reducible rfl | (constructor <;> with_reducible rfl))))
  (try simp only [Act.put, nA, nB, nC])
  refine wpList_val (v := ?_) rfl ?_ ?_
  rotate_left
  · (go_simp; (try (first | with_reducible rfl | (constructor <;> with_reducible rfl))))
  (try simp only [Act.put, nA, nB, nC])
  first | (refine wpList_val (v := ?_) (by rfl) ?_ ?_; rotate_left; focus ((go_simp; (try (first | with_reducible rfl | (constructor <;> with_reducible rfl)))))) | refine wpList_skip (by rfl) ?_
  (try simp only [Act.put, nA, nB, nC])
  first | (refine wpList_val (v := ?_) (by rfl) ?_ ?_; rotate_left; focus ((go_simp; (try (first | with_reducible rfl | (constructor <;> with_reducible rfl)))))) | refine wpList_skip (by rfl) ?_
  (try simp only [Act.put, nA, nB, nC])
  first | (refine wpList_val (v := ?_) (by rfl) ?_ ?_; rotate_left; focus ((go_simp; (try (first | with_reducible rfl | (constructor <;> with_reducible rfl)))))) | refine wpList_skip (by rfl) ?_
  (try simp only [Act.put, nA, nB, nC])
  first | (refine wpList_val (v := ?_) (by rfl) ?_ ?_; rotate_left; focus ((go_simp; (try (first | with_reducible rfl | (constructor <;> with_reducible rfl)))))) | refine wpList_skip (by rfl) ?_
  (try simp only [Act.put, nA, nB, nC])
  refine wpList_val (v := ?_) rfl ?_ ?_
  rotate_left
  · (go_simp; (try (first | with_reducible rfl | (constructor <;> with_reducible rfl))))
  (try simp only [Act.put, nA, nB, nC])
  refine wpList_val (v := ?_) rfl ?_ ?_
  rotate_left
  · (go_simp; (try (first | with_reducible rfl | (constructor <;> with_reducible rfl))))
  (try simp only [Act.put, nA, nB, nC])
  first | (refine wpList_val (v := ?_) (by rfl) ?_ ?_; rotate_left; focus ((go_simp; (try (first | with_reducible rfl | (constructor <;> with_reducible rfl)))))) | refine wpList_skip (by rfl) ?_
  (try simp only [Act.put, nA, nB, nC])
  first | (refine wpList_val (v := ?_) (by rfl) ?_ ?_; rotate_left; focus ((go_simp; (try (first | with_reducible rfl | (constructor <;> with_reducible rfl)))))) | refine wpList_skip (by rfl) ?_
  (try simp only [Act.put, nA, nB, nC])
  first | (refine wpList_val (v := ?_) (by rfl) ?_ ?_; rotate_left; focus ((go_simp; (try (first | with_reducible rfl | (constructor <;> with_reducible rfl)))))) | refine wpList_skip (by rfl) ?_
  (try simp only [Act.put, nA, nB, nC])
  first | (refine wpList_val (v := ?_) (by rfl) ?_ ?_; rotate_left; focus ((go_simp; (try (first | with_reducible rfl | (constructor <;> with_reducible rfl)))))) | refine wpList_skip (by rfl) ?_
  (try simp only [Act.put, nA, nB, nC])
  refine wpList_val (v := ?_) rfl ?_ ?_
  rotate_left
  · (go_simp; (try (first | with_reducible rfl | (constructor <;> with_reducible rfl))))
  (try simp only [Act.put, nA, nB, nC])
  refine wpList_val (v := ?_) rfl ?_ ?_
  rotate_left
  · (go_simp; (try (first | with_reducible rfl | (constructor <;> with_reducible rfl))))
  (try simp only [Act.put, nA, nB, nC])
  first | (refine wpList_val (v := ?_) (by rfl) ?_ ?_; rotate_left; focus ((go_simp; (try (first | with_reducible rfl | (constructor <;> with_reducible rfl)))))) | refine wpList_skip (by rfl) ?_
  (try simp only [Act.put, nA, nB, nC])
  first | (refine wpList_val (v := ?_) (by rfl) ?_ ?_; rotate_left; focus ((go_simp; (try (first | with_reducible rfl | (constructor <;> with_reducible rfl)))))) | refine wpList_skip (by rfl) ?_
  (try simp only [Act.put, nA, nB, nC])
  first | (refine wpList_val (v := ?_) (by rfl) ?_ ?_; rotate_left; focus ((go_simp; (try (first | with_reducible rfl | (constructor <;> with_reducible rfl)))))) | refine wpList_skip (by rfl) ?_
  (try simp only [Act.put, nA, nB, nC])
  first | (refine wpList_val (v := ?_) (by rfl) ?_ ?_; rotate_left; focus ((go_simp; (try (first | with_reducible rfl | (constructor <;> with_reducible rfl)))))) | refine wpList_skip (by rfl) ?_
  (try simp only [Act.put, nA, nB, nC])
  refine wpList_val (v := ?_) rfl ?_ ?_
  rotate_left
  · (go_simp; (try (first | with_reducible rfl | (constructor <;> with_reducible rfl))))
  (try simp only [Act.put, nA, nB, nC])
  refine wpList_val (v := ?_) rfl ?_ ?_
  rotate_left
  · (go_simp; (try (first | with_reducible rfl | (constructor <;> with_reducible rfl))))
  (try simp only [Act.put, nA, nB, nC])
  first | (refine wpList_val (v := ?_) (by rfl) ?_ ?_; rotate_left; focus (refine Eq.trans (run_load_row 25 (.tmp 4) (by rfl) w7.heap.size (by rfl) _ _ _ _ L4 Try.underlying25 rfl (icov.trans (by rw [arrv_size]))) ?_; with_reducible rfl)) | refine wpList_skip (by rfl) ?_
  (try simp only [Act.put, nA, nB, nC])
  first | (refine wpList_val (v := ?_) (by rfl) ?_ ?_; rotate_left; focus (refine Eq.trans (run_load_row 25 (.tmp 2) (by rfl) w3.heap.size (by rfl) _ _ _ _ L2 Try.underlying25 rfl (icov.trans (by rw [arrv_size]))) ?_; with_reducible rfl)) | refine wpList_skip (by rfl) ?_
  (try simp only [Act.put, nA, nB, nC])
  first | (refine wpList_val (v := ?_) (by rfl) ?_ ?_; rotate_left; focus (refine Eq.trans (run_op_eqlCov (.tmp 48) (.tmp 49) (by rfl) (by rfl) (by rfl) hEq.out) ?_; with_reducible rfl)) | refine wpList_skip (by rfl) ?_
  (try simp only [Act.put, nA, nB, nC])
  refine wpList_val (v := ?_) rfl ?_ ?_
  rotate_left
  · (go_simp; (try (first | with_reducible rfl | (constructor <;> with_reducible rfl))))
  (try simp only [Act.put, nA, nB, nC])
  refine wpList_val (v := ?_) rfl ?_ ?_
  rotate_left
  · (go_simp; (try (first | with_reducible rfl | (constructor <;> with_reducible rfl))))
  (try simp only [Act.put, nA, nB, nC])
  first | (refine wpList_val (v := ?_) (by rfl) ?_ ?_; rotate_left; focus ((go_simp; (try (first | with_reducible rfl | (constructor <;> with_reducible rfl)))))) | refine wpList_skip (by rfl) ?_
  (try simp only [Act.put, nA, nB, nC])
  first | (refine wpList_val (v := ?_) (by rfl) ?_ ?_; rotate_left; focus ((go_simp; (try (first | with_reducible rfl | (constructor <;> with_reducible rfl)))))) | refine wpList_skip (by rfl) ?_
  (try simp only [Act.put, nA, nB, nC])
  first | (refine wpList_val (v := ?_) (by rfl) ?_ ?_; rotate_left; focus ((go_simp; (try (first | with_reducible rfl | (constructor <;> with_reducible rfl)))))) | refine wpList_skip (by rfl) ?_
  (try simp only [Act.put, nA, nB, nC])
  first | (refine wpList_val (v := ?_) (by rfl) ?_ ?_; rotate_left; focus ((go_simp; (try (first | with_reducible rfl | (constructor <;> with_reducible rfl)))))) | refine wpList_skip (by rfl) ?_
  (try simp only [Act.put, nA, nB, nC])
  first | (refine wpList_val (v := ?_) (by rfl) ?_ ?_; rotate_left; focus ((go_simp; (try (first | with_reducible rfl | (constructor <;> with_reducible rfl)))))) | refine wpList_skip (by rfl) ?_
  (try simp only [Act.put, nA, nB, nC])
  refine wpList_val (v := ?_) rfl ?_ ?_
  rotate_left
  · (go_simp; (try (first | with_reducible rfl | (constructor <;> with_reducible rfl))))
  (try simp only [Act.put, nA, nB, nC])
  refine wpList_val (v := ?_) rfl ?_ ?_
  rotate_left
  · (go_simp; (try (first | with_reducible rfl | (constructor <;> with_reducible rfl))))
  (try simp only [Act.put, nA, nB, nC])
  refine wpList_nil ?_
  go_wp2_with fail
  go_ret
  refine ⟨rfl, ?_⟩
  have b1 := Below.after B0.out (Below.refl _ _)
  have b2 := own_upd b1 (Nat.le_refl _) HU2.out
  have b3 := own_upd (Below.after b2 HB2.out) (Nat.le_refl _) HU3.out
  have b4 := own_upd (Below.after (Below.after b3 M4.out.2) B6.out) (Nat.le_refl _) HU7.out
  exact Below.after b4 M8.out.2
end Go.Proofs.Ytcombidoaghlbaa
/- A slice of int64 that a call builds by append: what it owns. -/
namespace Go.Proofs.Ytcombidoaghlbaa
open Go.RowKit
def ints (n : Nat) (L : Nat → Int) : List Value := (List.range n).map fun i => .int .i64 (L i)
theorem ints_length (n : Nat) (L : Nat → Int) : (ints n L).length = n := by simp [ints]
theorem ints_succ (n : Nat) (L : Nat → Int) : ints (n + 1) L = ints n L ++ [.int .i64 (L n)] := by simp [ints, List.range_succ]
theorem ints_get {n : Nat} {L : Nat → Int} {i : Nat} (h : i < n) : (ints n L)[i]? = some (.int .i64 (L i)) := by simp [ints, h]
theorem ints_congr {n : Nat} {L M : Nat → Int} (h : ∀ i, i < n → L i = M i) : ints n L = ints n M := by
  apply List.ext_getElem?
  intro i
  by_cases hi : i < n
  · rw [ints_get hi, ints_get hi, h i hi]
  · rw [List.getElem?_eq_none (by rw [ints_length]; omega), List.getElem?_eq_none (by rw [ints_length]; omega)]
/-- v is a slice of n numbers L in a block of its own, from block B on. -/
def Own (w : World) (B T : Nat) (v : Value) (n : Nat) (L : Nat → Int) : Prop := w.ownsRow B T 1 v n (ints n L)
theorem Own.nil (w : World) (B T : Nat) (L : Nat → Int) : Own w B T (.slice none 0 0) 0 L := World.ownsRow_nil w B T 1
theorem Own.congr {w : World} {B T : Nat} {v : Value} {n : Nat} {L M : Nat → Int} (h : Own w B T v n L) (e : ∀ i, i < n → L i = M i) : Own w B T v n M := by
  unfold Own at *; rwa [← ints_congr e]
theorem Own.kept {w w' : World} {B T : Nat} {v : Value} {n : Nat} {L : Nat → Int} (h : Own w B T v n L) (hs : ∀ k, B ≤ k → k < w.heap.size → some k = v.ownBlock → w'.heap[k]? = w.heap[k]?) : Own w' B T v n L := by
  refine ⟨h.1, ?_⟩
  rcases h.2 with hn | ⟨g, cap, cur, rfl, hb, hgg, rest⟩
  · exact .inl hn
  · refine .inr ⟨g, cap, cur, rfl, hb, ?_, rest⟩
    rw [hs g hb (Array.getElem?_eq_some_iff.1 hgg).1 rfl]
    exact hgg
theorem Own.below {w w' : World} {B T : Nat} {v : Value} {n : Nat} {L : Nat → Int} (h : Own w B T v n L) (b : Below w.heap.size w w') : Own w' B T v n L := h.kept fun k _ hk _ => b.block k hk
theorem Own.drew {w : World} {B T : Nat} {v : Value} {n : Nat} {L : Nat → Int} (h : Own w B T v n L) : Own w.drew B T v n L := h
theorem Own.alloc {w : World} {B T : Nat} {v : Value} {n : Nat} {L : Nat → Int} (h : Own w B T v n L) (o : Obj) : Own (w.alloc o) B T v n L := h.below ((Below.refl _ _).alloc (Nat.le_refl _) o)
theorem Own.upd {w w' : World} {B T : Nat} {v : Value} {n : Nat} {L : Nat → Int} (h : Own w B T v n L) {c : Addr} {f : Bool} (u : Upd c f w w') (hc : c.block < B) : Own w' B T v n L := h.kept fun k hB hk _ => u.block hk (by omega)
theorem Own.grown {w w' : World} {B T : Nat} {v : Value} {n : Nat} {L : Nat → Int} (h : Own w B T v n L) {r : Option Nat} (g : w.grownBy w' r) (hn : ∀ k, v.ownBlock = some k → r ≠ some k) : Own w' B T v n L :=
  h.kept fun k _ hk e => g.block k hk (fun e2 => hn k e.symm e2.symm)
theorem Own.other {w : World} {B T : Nat} {v : Value} {n : Nat} {L : Nat → Int} (h : Own w B T v n L) {a : Addr} (ha : v.ownBlock ≠ some a.block) (x : Value) : Own (w.setCell a x) B T v n L :=
  h.kept fun k _ _ e => heap_setCell_other w a k x (fun e2 => ha (by rw [← e, e2]))
/-- As a slice: its numbers. -/
theorem Own.slc {w : World} {B T : Nat} {v : Value} {n : Nat} {L : Nat → Int} (h : Own w B T v n L) (hn : 0 < n) :
    ∃ g cp, v = .slice (some ⟨g, 0, none⟩) n cp ∧ B ≤ g ∧ g < w.heap.size ∧ ∀ i, i < n → w.cell? ⟨g, 0 + i, none⟩ = some (.int .i64 (L i)) := by
  rcases h.2 with ⟨_, h0⟩ | ⟨g, cap, cur, rfl, hb, hgg, h1, h2, h3, h4⟩
  · omega
  · refine ⟨g, cap, rfl, hb, (Array.getElem?_eq_some_iff.1 hgg).1, fun i hi => ?_⟩
    rw [Nat.zero_add, cell_of_row w g i cur T (0, 0) hgg]
    have := ints_get (L := L) hi
    rw [← h4, List.getElem?_take] at this
    split at this
    · simpa using this
    · cases this
/-- Whatever is behind an append: below the first own block nothing has turned. -/
theorem below_grown {B : Nat} {w0 w w' : World} {r : Option Nat} (b : Below B w0 w) (g : w.grownBy w' r) (hr : ∀ k, r = some k → B ≤ k) (hB : B ≤ w.heap.size) : Below B w0 w' :=
  b.trans ⟨g.os, g.tape, g.output, g.size, fun k hk => by
    exact g.block k (by omega) (fun e => by have := hr k e.symm; omega)⟩
end Go.Proofs.Ytcombidoaghlbaa
/- append of one number of int64 to a slice of the call's own. -/
namespace Go.Proofs.Ytcombidoaghlbaa
open Go.RowKit
open Go
theorem info_i64 : (Try.prog.info? 2).map (fun i => (i.zero, i.size, i.bytes)) = some (some (.int .i64 0), 1, 8) := by kernel_rfl
theorem info_i64' : ∃ i, Try.prog.info? 2 = some i ∧ i.zero = some (.int .i64 0) ∧ i.size = 1 ∧ i.bytes = 8 := by
  have h := info_i64
  cases e : Try.prog.info? 2 with
  | none => rw [e] at h; cases h
  | some i => rw [e] at h; simp at h; exact ⟨i, rfl, h.1, h.2.1, h.2.2⟩
theorem own_snoc {n : Nat} {L : Nat → Int} {x : Int} : ints n L ++ [.int .i64 x] = ints (n + 1) (upd L n x) := by
  rw [ints_succ]
  congr 1
  · exact ints_congr fun i hi => by simp [upd, show ¬ i = n by omega]
  · simp [upd]
theorem run_app1 {w : World} (B : Nat) {v : Value} {n : Nat} {L : Nat → Int} (hown : Own w B 2 v n L) (nb c : Nat) (x : Int) (hx : w.cell? ⟨nb, 0, none⟩ = some (.int .i64 x)) (hn : n ≤ 1000000) (hB : B ≤ w.heap.size) (ty : TypeId) (H : Nat) (hH : w.heap.size = H) :
    ∃ g cap w', (Builtin.append_ #[34, 34] ty #[v, .slice (some ⟨nb, 0, none⟩) 1 c]).run Try.prog w = .ok (.slice (some ⟨g, 0, none⟩) (n + 1) cap) w' ∧
      Own w' B 2 (.slice (some ⟨g, 0, none⟩) (n + 1) cap) (n + 1) (upd L n x) ∧ w.grownBy w' v.ownBlock ∧ (v.ownBlock = some g ∨ g = H) ∧ g < w'.heap.size := by
  obtain ⟨i, hi, hz, hs, hb⟩ := info_i64'
  obtain ⟨g, cap, w', h1, h2, h3, h4, h5⟩ := run_append_lies (P := Try.prog) w 34 ty B 2 i (.int .i64 0) 1 8 Try.underlying34 hi hz hs hb rfl (by decide) v n (ints n L) hown ⟨nb, 0, none⟩ 1 c [.int .i64 x] rfl
    (fun j u hu => by
      have hj : j = 0 := by
        have := List.getElem?_eq_some_iff.1 hu
        obtain ⟨h, _⟩ := this
        simpa using h
      subst hj
      simp at hu
      subst hu
      simpa [Addr.add] using hx) (fun u hu => by rw [List.mem_singleton] at hu; subst hu; rfl) (by decide) (by unfold maxLen; omega) (by omega) hB H hH
  exact ⟨g, cap, w', h1, by unfold Own; rw [← own_snoc]; exact h2, h3, h4, h5⟩
theorem wp_app1 {w : World} {o : Oper} {a : Act} {K : Act → World → Prop} {Q : Exit → Act → World → Prop} (s x : Operand)
    (ho : o.op = .call { callee := .builtin .append, args := #[s, x], argTypes := #[34, 34] })
    (B : Nat) {v : Value} {n : Nat} {L : Nat → Int} (hs : a.eval s = v) (hown : Own w B 2 v n L) (nb c : Nat) (y : Int) (hx : a.eval x = .slice (some ⟨nb, 0, none⟩) 1 c) (hy : w.cell? ⟨nb, 0, none⟩ = some (.int .i64 y)) (hn : n ≤ 1000000) (hB : B ≤ w.heap.size) (H : Nat) (hH : w.heap.size = H)
    (h : ∀ g cap w', Own w' B 2 (.slice (some ⟨g, 0, none⟩) (n + 1) cap) (n + 1) (upd L n y) → w.grownBy w' v.ownBlock → (v.ownBlock = some g ∨ g = H) → g < w'.heap.size → K (a.put o.dst (.slice (some ⟨g, 0, none⟩) (n + 1) cap)) w') : o.wp Try.prog a w K Q := by
  obtain ⟨g, cap, w', hr, h2, h3, h4, h5⟩ := run_app1 B hown nb c y hy hn hB o.type H hH
  unfold Oper.wp execOp
  simp only [ho, resolve, invoke, builtin, Sem.run_bind, Sem.run_pure, Result.andThen_ok, List.map_toArray, List.map_cons, List.map_nil, hs, hx, hr]
  exact h g cap w' h2 h3 h4 h5
theorem wpList_app1 {w : World} {ops : Array Oper} {rest : List Oper} {o : Oper} {a : Act} {Q : Exit → Act → World → Prop} (hgd : o.guard = none) (s x : Operand)
    (ho : o.op = .call { callee := .builtin .append, args := #[s, x], argTypes := #[34, 34] })
    (B : Nat) {v : Value} {n : Nat} {L : Nat → Int} (hs : a.eval s = v) (hown : Own w B 2 v n L) (nb c : Nat) (y : Int) (hx : a.eval x = .slice (some ⟨nb, 0, none⟩) 1 c) (hy : w.cell? ⟨nb, 0, none⟩ = some (.int .i64 y)) (hn : n ≤ 1000000) (hB : B ≤ w.heap.size) (H : Nat) (hH : w.heap.size = H)
    (h : ∀ g cap w', Own w' B 2 (.slice (some ⟨g, 0, none⟩) (n + 1) cap) (n + 1) (upd L n y) → w.grownBy w' v.ownBlock → (v.ownBlock = some g ∨ g = H) → g < w'.heap.size → wpList Try.prog ops Q rest (a.put o.dst (.slice (some ⟨g, 0, none⟩) (n + 1) cap)) w') : wpList Try.prog ops Q (o :: rest) a w :=
  wpList_plain hgd fun _ hK => wp_app1 s x ho B hs hown nb c y hx hy hn hB H hH fun g cap w' h2 h3 h4 h5 => hK _ _ (h g cap w' h2 h3 h4 h5)
theorem step_app1 {w : World} {ops : Array Oper} {o : Oper} {a : Act} {K : Act → World → Prop} {Q : Exit → Act → World → Prop} {E : Prop} (hgd : o.guard = none) (s x : Operand)
    (ho : o.op = .call { callee := .builtin .append, args := #[s, x], argTypes := #[34, 34] })
    (B : Nat) {v : Value} {n : Nat} {L : Nat → Int} (hs : a.eval s = v) (hown : Own w B 2 v n L) (nb c : Nat) (y : Int) (hx : a.eval x = .slice (some ⟨nb, 0, none⟩) 1 c) (hy : w.cell? ⟨nb, 0, none⟩ = some (.int .i64 y)) (hn : n ≤ 1000000) (hB : B ≤ w.heap.size) (H : Nat) (hH : w.heap.size = H)
    (h : ∀ g cap w', Own w' B 2 (.slice (some ⟨g, 0, none⟩) (n + 1) cap) (n + 1) (upd L n y) → w.grownBy w' v.ownBlock → (v.ownBlock = some g ∨ g = H) → g < w'.heap.size → K (a.put o.dst (.slice (some ⟨g, 0, none⟩) (n + 1) cap)) w') :
    if Region.wanted o (yielded ops a.tmps) = true then Oper.wp Try.prog o a w K Q else E := by
  have hw : Region.wanted o (yielded ops a.tmps) = true := by simp [Region.wanted, hgd]
  rw [if_pos hw]
  exact wp_app1 s x ho B hs hown nb c y hx hy hn hB H hH h
end Go.Proofs.Ytcombidoaghlbaa
/- bierman's numbers: what an update reckons with, and what it makes. No program. -/
namespace Go.Proofs.Ytcombidoaghlbaa
end Go.Proofs.Ytcombidoaghlbaa
/- bierman's plain laws: a row of noughts, turned signs, what is learnt is good. No program. -/
namespace Go.Proofs.Ytcombidoaghlbaa
section
variable {p : Nat → Int} (hU : ∀ x, x < 276 → -1152921504606846976 ≤ p x ∧ p x ≤ 1152921504606846976) (hD : ∀ i, i < 24 → 1 ≤ p (276 + i) ∧ p (276 + i) ≤ 72057594037927936) {r : Int} (hr : 1 ≤ r ∧ r ≤ 72057594037927936)
end
section
variable (p h : Nat → Int) (r : Int)
end
section
variable {p h : Nat → Int} {r : Int} (hD : ∀ i, i < 24 → 1 ≤ p (276 + i) ∧ p (276 + i) ≤ 72057594037927936) (hr : 1 ≤ r ∧ r ≤ 72057594037927936)
include hD
include hr
end
end Go.Proofs.Ytcombidoaghlbaa
/- bierman's plain laws (2): one state by itself, and the flags of a row of noughts. No program. -/
namespace Go.Proofs.Ytcombidoaghlbaa
section
variable {p : Nat → Int} (hp : DiagF p) {k : Nat} (hk : k < 24) {r : Int} (hr : 1 ≤ r ∧ r ≤ 72057594037927936) (hd : p (276 + k) ≤ 72057594037927936)
theorem byV_bd (x d : Int) : -1152921504606846976 ≤ byV x d ∧ byV x d ≤ 1152921504606846976 := by
  unfold byV; split
  · split
    · omega
    · split <;> omega
  · exact satV_bd _
theorem divV_bd (a b s : Int) : -1152921504606846976 ≤ divV a b s ∧ divV a b s ≤ 1152921504606846976 := by
  unfold divV; split
  · omega
  · exact byV_bd _ _
end
end Go.Proofs.Ytcombidoaghlbaa
/- thornton.Step's answer is good. No program. -/
namespace Go.Proofs.Ytcombidoaghlbaa
theorem outI_good (O W e : Nat → Int) {j : Nat} (hj : j < 24) : ∀ m, m ≤ j →
    (∀ x, x < 276 → (-1152921504606846976 ≤ O x ∧ O x ≤ 1152921504606846976) → -1152921504606846976 ≤ outI O W e j m x ∧ outI O W e j m x ≤ 1152921504606846976) ∧
    (∀ i, i ≠ j → outI O W e j m (276 + i) = O (276 + i)) ∧ outI O W e j m (276 + j) = stD W e j
  | 0, _ => by
    refine ⟨fun x hx h => ?_, fun i hi => ?_, ?_⟩
    · simp only [outI, upd]; rw [if_neg (by omega)]; exact h
    · simp only [outI, upd]; rw [if_neg (by omega)]
    · simp only [outI, upd, if_true]
  | m + 1, hm => by
    obtain ⟨h1, h2, h3⟩ := outI_good O W e hj m (by omega)
    have hp := pl_lt (i := m) (j := j) (by omega) hj
    refine ⟨fun x hx h => ?_, fun i hi => ?_, ?_⟩
    · simp only [outI, upd]
      split
      · unfold stU; exact divV_bd _ _ _
      · exact h1 x hx h
    · simp only [outI, upd]; rw [if_neg (by omega)]; exact h2 i hi
    · simp only [outI, upd]; rw [if_neg (by omega)]; exact h3
end Go.Proofs.Ytcombidoaghlbaa
/- Roundings: how far from the quotient. No program. -/
namespace Go.Proofs.Ytcombidoaghlbaa
def SB (x : Int) : Prop := -1152921504606846976 ≤ x ∧ x ≤ 1152921504606846976
theorem satV_sb {x : Int} (h : SB x) : satV x = x := satV_id h.1 h.2
theorem satH_sb {x : Int} (h : SB x) : satH x = false := satH_no h.1 h.2
theorem rdiv_err {x d : Int} (hd : 0 < d) : -d ≤ 2 * (d * rdiv x d - x) ∧ 2 * (d * rdiv x d - x) ≤ d := by
  have key : ∀ n k : Nat, 0 < k → -(k : Int) ≤ 2 * ((k : Int) * (((2 * n + k) / (2 * k) : Nat) : Int) - n) ∧ 2 * ((k : Int) * (((2 * n + k) / (2 * k) : Nat) : Int) - n) ≤ k := by
    intro n k hk
    have h1 := Nat.div_add_mod (2 * n + k) (2 * k)
    have h2 := Nat.mod_lt (2 * n + k) (show 0 < 2 * k by omega)
    generalize (2 * n + k) / (2 * k) = q at *
    generalize (2 * n + k) % (2 * k) = r at *
    have h3 : ((2 * k * q + r : Nat) : Int) = ((2 * n + k : Nat) : Int) := by rw [h1]
    rw [Int.natCast_add, Int.natCast_mul, Int.natCast_mul, Int.natCast_add, Int.natCast_mul, Int.mul_assoc] at h3
    generalize (k : Int) * (q : Int) = z at *
    omega
  have hk : (d.natAbs : Int) = d := by omega
  have h := key x.natAbs d.natAbs (by omega)
  rw [hk] at h
  unfold rdiv
  by_cases hx : 0 ≤ x
  · rw [if_pos (by simp [hx, hd])]
    rw [show (x.natAbs : Int) = x by omega] at h
    exact h
  · rw [if_neg (by simp [hx, hd])]
    rw [show (x.natAbs : Int) = -x by omega] at h
    rw [Int.mul_neg]
    generalize d * (((2 * x.natAbs + d.natAbs) / (2 * d.natAbs) : Nat) : Int) = z at *
    omega
theorem rsh_err (x : Int) : -1073741824 ≤ 2 * (1073741824 * rsh x 30 - x) ∧ 2 * (1073741824 * rsh x 30 - x) ≤ 1073741824 := by
  have h2 : ((2 : Int) ^ 30) = 1073741824 := by decide
  unfold rsh; rw [h2]
  exact rdiv_err (by decide)
theorem mulV_of {a b : Int} (ha : SB a) (hb : SB b) (h : SB (rsh (a * b) 30)) : mulV a b 30 = rsh (a * b) 30 ∧ mulH a b 30 = false := by
  unfold mulV mulH
  rw [if_neg (by decide), satV_sb ha, satV_sb hb, show (30 : Int).toNat = 30 from rfl, satV_sb h, satH_sb ha, satH_sb hb, satH_sb h]
  exact ⟨rfl, by decide⟩
end Go.Proofs.Ytcombidoaghlbaa
/- thornton.Step of variances alone, One and one number more: what comes out (plain law, 1). No program. -/
namespace Go.Proofs.Ytcombidoaghlbaa
def atU (f : Nat → Int) (i m : Nat) : Nat → Int := fun q => uV f i (m + q)
def atX (f : Nat → Int) (j m : Nat) : Nat → Int := fun q => mulV (uV f j (m + q)) (f (276 + (m + q))) 30
def atV (f : Nat → Int) (i j : Nat) : Int := dotV 30 (atU f i (max i j)) (atX f j (max i j)) (24 - max i j)
def atB (f : Nat → Int) (j m : Nat) : Nat → Bool := fun q => mulH (uV f j (m + q)) (f (276 + (m + q))) 30
def atH (f : Nat → Int) (i j : Nat) : Bool := orB (atB f j (max i j)) (24 - max i j) || dotH 30 (atU f i (max i j)) (atX f j (max i j)) (24 - max i j)
end Go.Proofs.Ytcombidoaghlbaa
/- Part of a block of numbers, loaded or stored as a whole. -/
namespace Go.Proofs.Ytcombidoaghlbaa
open Go.RowKit
end Go.Proofs.Ytcombidoaghlbaa
/- Contract of tri.At: a number of the covariance. -/
namespace Go.Proofs.Ytcombidoaghlbaa
open Go.RowKit
set_option maxRecDepth 100000
structure AtR (c : Addr) (h : Bool) (f : Nat → Int) (i j m : Nat) (u x : Value) (n : Nat) (w wr : World) : Prop where
  upd : Upd c (h || orB (atB f j m) n) w wr
  blk : Blk wr w.heap.size 25 300 f
  ou : Own wr (w.heap.size + 1) 2 u n (atU f i m)
  ox : Own wr (w.heap.size + 1) 2 x n (atX f j m)
  ne : ∀ g, u.ownBlock = some g → x.ownBlock ≠ some g
theorem ownBlock_lt {w : World} {B T : Nat} {v : Value} {n : Nat} {L : Nat → Int} (h : Own w B T v n L) {g : Nat} (e : v.ownBlock = some g) : B ≤ g ∧ g < w.heap.size := World.ownsRow.lt h g e
theorem snoc_fun {n : Nat} {L : Nat → Int} {y : Int} (e : y = L n) : ∀ i, i < n + 1 → upd L n y i = L i := fun i _ => by
  unfold upd; split
  · rename_i h; rw [h, e]
  · rfl
set_option maxHeartbeats 4000000 in
theorem at_any (c : Addr) (h : Bool) (f : Nat → Int) (i j : Nat) (w : World) (hc : w.cell? c = some (.bool h)) (hf : w.frozen? c = false) (hi : i < 24) (hj : j < 24) :
    Calls Try.prog 10 #[.pointer (some c), .agg (arrv 300 f), .int .i64 i, .int .i64 j] w fun e w' => e = .returned (.int .i64 (atV f i j)) ∧ Upd c (h || atH f i j) w w' := by
  have hcb := World.block_lt_of_cell? w c hc
  have HC := Lib.hid hc
  have HF := Lib.hid hf
  clear hc hf
  obtain ⟨m, hm⟩ : ∃ m, max i j = m := ⟨_, rfl⟩
  have hm24 : m < 24 := by omega
  have ev : atV f i j = dotV 30 (atU f i m) (atX f j m) (24 - m) := by unfold atV; rw [hm]
  have eh : (h || atH f i j) = (h || orB (atB f j m) (24 - m) || dotH 30 (atU f i m) (atX f j m) (24 - m)) := by unfold atH; rw [hm, Bool.or_assoc]
  rw [ev, eh]
  clear ev eh
  go_enter Try.func10, Try.ntmps10
  go_wp2_with fail
  go_loopw [9, 10, 11] (fun u x k wr => ∃ q : Nat, m ≤ q ∧ q ≤ 24 ∧ k = .int .i64 (q : Int) ∧ Hid (AtR c h f i j m u x (q - m) w wr)) (fun _ _ k _ => 24 - (intOf k).toNat)
  case atStart =>
    refine ⟨m, Nat.le_refl _, by omega, by congr 1; omega, ?_⟩
    rw [Nat.sub_self]
    refine ⟨?_, Blk.new w _ _ _, Own.nil _ _ _ _, Own.nil _ _ _ _, fun g hg => by cases hg⟩
    rw [show (h || orB (atB f j m) 0) = h from by simp [orB]]
    exact Upd.then (Upd.refl HC.out) (by (repeat (first | with_reducible exact Below.refl _ _ | with_reducible apply Below.drew | (with_reducible refine below_drewN ?_ _) | (with_reducible refine Below.alloc ?_ (by (try simp) <;> omega) _) | (with_reducible refine Below.setCell ?_ (by (try simp) <;> omega) _))))
  case round =>
    obtain ⟨q, hmq, hq24, rfl, R⟩ := hrel
    by_cases hlt : q < 24
    · obtain ⟨n, hn⟩ : ∃ n, q - m = n := ⟨_, rfl⟩
      rw [hn] at R
      have hqn : m + n = q := by omega
      have hn24 : n ≤ 24 := by omega
      have HQN := Lib.hid hqn
      clear hn hqn
      have d1 : decide ((q : Int) < 24) = true := by simp; omega
      have PB := R.out.blk
      have U1 := Lib.hid R.out.upd
      have O1 := Lib.hid R.out.ou
      have O2 := Lib.hid R.out.ox
      have NE := Lib.hid R.out.ne
      have hbl := PB.lt
      clear R
      go_upto_region 8 with (first | (refine wpList_load_row rfl 25 _ rfl w.heap.size rfl 25 _ (0, 0) _ PB Try.underlying25 rfl (icov.trans (by rw [arrv_size])) ?_) | (go_at_call 29; (refine (u_any f i q _ hi hlt).mono ?_); rintro e w2 ⟨rfl, hb2⟩; have HB2 := Lib.hid hb2; have hz2 := hb2.size; clear hb2) | (refine wpList_app1 rfl (.tmp 29) (.tmp 34) rfl (w.heap.size + 1) rfl ((O1.out.below HB2.out).alloc _) w2.heap.size 1 (uV f i q) rfl (by simp [go_sem]) (by omega) (by simp; omega) (w2.heap.size + 1) (by simp) ?_; intro g1 cp1 w3 hO1 hg1 hat1 hlt1; have HO1 := Lib.hid hO1; have HG1 := Lib.hid hg1; have HA1 := Lib.hid hat1; clear hO1 hg1 hat1))
      have hA2 : Below wr.heap.size wr (w2.alloc (.cells #[.int .i64 (uV f i q)] 2)) := HB2.out.alloc hz2 _
      have hG : Below (w.heap.size + 1) wr w3 := below_grown (hA2.mono (by omega)) HG1.out (fun k hk => (ownBlock_lt O1.out hk).1) (by simp; omega)
      have hz3 : wr.heap.size ≤ w3.heap.size := hG.size
      have PB3 : w3.heap[w.heap.size]? = some (.cells (arrv 300 f) 25 (0, 0)) := (hG.block _ (by omega)).trans PB
      have U3 := U1.out.then' (hG.mono (by omega))
      have c3 := U3.cellc HC.out
      have f3 := (U3.frozen hcb).trans HF.out
      have O23 : Own w3 (w.heap.size + 1) 2 u10 n (atX f j m) := ((O2.out.below hA2)).grown HG1.out (fun k hk e => NE.out k e.symm.symm hk)
      have NG : u10.ownBlock ≠ some g1 := by
        rcases HA1.out with e | e
        · exact NE.out g1 e
        · intro e2
          have := (ownBlock_lt O2.out e2).2
          omega
      have HO13 := Lib.hid (HO1.out.congr (snoc_fun (n := n) (L := atU f i m) (by simp only [atU]; rw [HQN.out])))
      have HO23 := Lib.hid O23
      have HU3 := Lib.hid U3
      have hq0 : (0 : Int) ≤ (q : Int) := Int.natCast_nonneg _
      have hq1 : (q : Int) < 24 := by omega
      have hl3 : w.heap.size < w3.heap.size := Blk.lt (f := f) PB3
      have HNG := Lib.hid NG
      clear PB hA2 HB2 U1 O1 O2 NE hbl hz2 HA1 HO1 O23 U3 HG1 hG NG
      refine wp_region_M (fun w' => w'.heap[w.heap.size]? = some (.cells (arrv 300 f) 25 (0, 0))) 13 (by kernel_rfl) ?_ (fun hHeld => ?_)
      · exact PB3
      refine wpAnyM_take 0 (v := ?_) rfl (by kernel_rfl) (fun _ _ _ h => h) (Or.inl ⟨by rfl, ?_⟩) (by assumption) ?_
      rotate_left
      · (intro wx hSw; (try dsimp only at hSw); go_simp; (try with_reducible rfl))
      (try simp only [Act.put, nA, nB, nC])
      refine wpAnyM_take 1 (v := ?_) rfl (by kernel_rfl) (fun _ _ _ h => h) (Or.inl ⟨by rfl, ?_⟩) (by assumption) ?_
      rotate_left
      · (intro wx hSw; (try dsimp only at hSw); go_simp; (try with_reducible rfl))
      (try simp only [Act.put, nA, nB, nC])
      refine wpAnyM_take 2 (v := ?_) rfl (by kernel_rfl) (fun _ _ _ h => h) (Or.inl ⟨by rfl, ?_⟩) (by assumption) ?_
      rotate_left
      · (intro wx hSw; refine Eq.trans (run_load_row 25 (.tmp 5) (by rfl) (w.heap.size) (by rfl) _ _ _ _ (hSw) Try.underlying25 rfl (icov.trans (by rw [arrv_size]))) ?_; with_reducible rfl)
      (try simp only [Act.put, nA, nB, nC])
      refine wpAnyM_take 3 (v := ?_) rfl (by kernel_rfl) (fun _ _ _ h => h) (Or.inl ⟨by rfl, ?_⟩) (by assumption) ?_
      rotate_left
      · (intro wx hSw; (try dsimp only at hSw); go_simp; (try with_reducible rfl))
      (try simp only [Act.put, nA, nB, nC])
      refine wpAnyM_take 4 (v := ?_) rfl (by kernel_rfl) (fun _ _ _ h => h) (Or.inl ⟨by rfl, ?_⟩) (by assumption) ?_
      rotate_left
      · (intro wx hSw; (try dsimp only at hSw); go_simp; (try with_reducible rfl))
      (try simp only [Act.put, nA, nB, nC])
      refine wpAnyM_take 6 (v := ?_) rfl (by kernel_rfl) (fun _ _ _ h => h) (Or.inl ⟨by rfl, ?_⟩) (by assumption) ?_
      rotate_left
      · (intro wx hSw; (try dsimp only at hSw); go_simp; (try with_reducible rfl))
      (try simp only [Act.put, nA, nB, nC])
      refine wpAnyM_take 7 (v := ?_) rfl (by kernel_rfl) (fun _ _ _ h => h) (Or.inl ⟨by rfl, ?_⟩) (by assumption) ?_
      rotate_left
      · (intro wx hSw; (try dsimp only at hSw); go_simp; (try with_reducible rfl))
      (try simp only [Act.put, nA, nB, nC])
      refine wpAnyM_take 8 (v := ?_) rfl (by kernel_rfl) (fun _ _ _ h => h) (Or.inl ⟨by rfl, ?_⟩) (by assumption) ?_
      rotate_left
      · (intro wx hSw; (try dsimp only at hSw); go_simp; (try with_reducible rfl))
      (try simp only [Act.put, nA, nB, nC])
      refine wpAnyM_take 9 (v := ?_) rfl (by kernel_rfl) (fun _ _ _ h => h) (Or.inl ⟨by rfl, ?_⟩) (by assumption) ?_
      rotate_left
      · (intro wx hSw; have hq := Blk.cell (f := f) (i := 276 + q) hSw (by omega); go_simp; (try with_reducible rfl))
      (try simp only [Act.put, nA, nB, nC])
      refine wpAnyM_oneS 5 rfl (by kernel_rfl) (fun K hK => ?_)
      go_simp
      (refine (u_any f j q _ hj hlt).mono ?_); rintro e w4 ⟨rfl, hb4⟩; have HB4 := Lib.hid (Below.after (Below.drew (Below.refl w3.heap.size w3)) hb4); have kp := (HB4.out.block w.heap.size (by omega)).trans PB3; have hz4 := HB4.out.size; have c4 := (HB4.out.cell (World.block_lt_of_cell? _ _ c3)).trans c3; have f4 := (HB4.out.frozen (World.block_lt_of_cell? _ _ c3)).trans f3; clear hb4
      (try dsimp only)
      (try simp only [Act.put, nA, nB, nC])
      clear hHeld
      refine hK.out _ _ ?_ (fun hHeld => ?_)
      · exact kp
      clear hK K
      (try simp only [Act.put, nA, nB, nC])
      refine wpAnyM_oneS 10 rfl (by kernel_rfl) (fun K hK => ?_)
      go_simp
      (refine (fmul_any c _ (uV f j q) (f (276 + q)) 30 _ c4 f4).mono ?_); rintro e w5 ⟨rfl, hu5⟩; have kp2 := (hu5.block (k := w.heap.size) (by omega) (by omega)).trans kp; have HU5 := Lib.hid hu5; have hz5 := hu5.size; have kp3 : ∀ o, (w5.alloc o).heap[w.heap.size]? = some (.cells (arrv 300 f) 25 (0, 0)) := (fun o => Blk.alloc (show Blk w5 w.heap.size 25 300 f from kp2) o); have O25 := Lib.hid (((HO23.out.below HB4.out).upd HU5.out (by omega)).alloc (.cells #[.int .i64 (mulV (uV f j q) (f (276 + q)) 30)] 2)); clear hu5
      (try dsimp only)
      (try simp only [Act.put, nA, nB, nC])
      clear hHeld
      refine hK.out _ _ ?_ (fun hHeld => ?_)
      · exact kp2
      clear hK K
      (try simp only [Act.put, nA, nB, nC])
      refine wpAnyM_oneS 11 rfl (by kernel_rfl) (fun K hK => ?_)
      go_simp
      clear hHeld
      refine hK.out _ _ ?_ (fun hHeld => ?_)
      · exact kp3 _
      clear hK K
      (try simp only [Act.put, nA, nB, nC])
      refine wpAnyM_oneS 12 rfl (by kernel_rfl) (fun K hK => ?_)
      refine step_app1 rfl (.tmp 36) (.tmp 47) rfl (w.heap.size + 1) rfl O25.out w5.heap.size 1 (mulV (uV f j q) (f (276 + q)) 30) rfl (by simp [go_sem]) (by omega) (by simp; omega) (w5.heap.size + 1) (by simp) ?_; intro g2 cp2 w6 hO2 hg2 hat2 hlt2; have HG6 := Lib.hid (below_grown (Below.refl (w.heap.size + 1) (w5.alloc (.cells #[.int .i64 (mulV (uV f j q) (f (276 + q)) 30)] 2))) hg2 (fun k hk => (ownBlock_lt O25.out hk).1) (by simp; omega)); have kp4 := (HG6.out.block w.heap.size (by omega)).trans (kp3 _); have HO26 := Lib.hid hO2; have HGR := Lib.hid hg2; have HAT := Lib.hid hat2; clear hO2 hg2 hat2
      clear hHeld
      refine hK.out _ _ ?_ (fun hHeld => ?_)
      · exact kp4
      clear hK K
      (try simp only [Act.put, nA, nB, nC])
      refine wpAnyM_one 13 rfl (by kernel_rfl) (fun K hK => ?_)
      go_simp
      refine hK.out _ _ (.inl (by kernel_rfl)) (fun _ => ?_)
      clear hK K
      (try simp only [Act.put, nA, nB, nC])
      refine wpAnyM_done (by kernel_rfl) ?_ _
      go_wp2_with fail
      go_roundw
      case rel =>
        have hcb' : c.block < w.heap.size + 1 := by omega
        refine ⟨q + 1, by omega, by omega, by go_num, ?_⟩
        rw [show q + 1 - m = n + 1 by have := HQN.out; omega]
        refine ⟨?_, kp4, ?_, HO26.out.congr (snoc_fun (n := n) (L := atX f j m) (by simp only [atX]; rw [HQN.out])), ?_⟩
        · rw [show (h || orB (atB f j m) (n + 1)) = (h || orB (atB f j m) n || mulH (uV f j q) (f (276 + q)) 30) from by simp [orB, atB, HQN.out, Bool.or_assoc]]
          exact ((((HU3.out.then HB4.out).trans HU5.out).alloc _).then' (HG6.out.mono (by omega)))
        · refine Own.grown (((HO13.out.below HB4.out).upd HU5.out hcb').alloc _) HGR.out (fun k hk e => ?_)
          have hk' : g1 = k := by simpa [Value.ownBlock] using hk
          subst hk'
          exact HNG.out e
        · intro g hg e
          have hg' : g1 = g := by simpa [Value.ownBlock] using hg
          have he' : g2 = g := by simpa [Value.ownBlock] using e
          subst hg'
          subst he'
          rcases HAT.out with e | e
          · exact HNG.out e
          · omega
      case measure => simp [intOf]; omega
    · obtain rfl : q = 24 := by omega
      rw [show ((24 : Nat) : Int) = 24 from rfl]
      obtain ⟨gu, cu, rfl, hBu, hlu, hcu⟩ := R.out.ou.slc (by omega)
      obtain ⟨gx, cx, rfl, hBx, hlx, hcx⟩ := R.out.ox.slc (by omega)
      have U1 := Lib.hid R.out.upd
      have c1 := U1.out.cellc HC.out
      have f1 := (U1.out.frozen hcb).trans HF.out
      have DC := Lib.hid (dot_any c _ 30 (atU f i m) (atX f j m) gu 0 cu gx 0 cx (24 - m) wr c1 f1 (by decide) (by decide) (by omega) hcu hcx)
      clear R hcu hcx
      go_wp2_with (go_at_call 11; (refine DC.out.mono ?_); rintro e w3 ⟨rfl, hu3⟩)
      go_ret
      exact ⟨rfl, U1.out.trans hu3⟩
end Go.Proofs.Ytcombidoaghlbaa
/- Sums; one elimination of two rows by a third, with its roundings. No program. -/
namespace Go.Proofs.Ytcombidoaghlbaa
def sg (f : Nat → Int) : Nat → Int | 0 => 0 | n + 1 => sg f n + f n
theorem sg_congr {f g : Nat → Int} : ∀ {n : Nat}, (∀ k, k < n → f k = g k) → sg f n = sg g n
  | 0, _ => rfl
  | n + 1, h => by unfold sg; rw [sg_congr (n := n) fun k hk => h k (by omega), h n (by omega)]
theorem sg_le {f g : Nat → Int} : ∀ {n : Nat}, (∀ k, k < n → f k ≤ g k) → sg f n ≤ sg g n
  | 0, _ => Int.le_refl _
  | n + 1, h => by
    have h1 := sg_le (n := n) fun k hk => h k (by omega)
    have h2 := h n (by omega)
    unfold sg; omega
theorem sg_abs {f g : Nat → Int} : ∀ {n : Nat}, (∀ k, k < n → -(g k) ≤ f k ∧ f k ≤ g k) → -(sg g n) ≤ sg f n ∧ sg f n ≤ sg g n
  | 0, _ => by unfold sg; omega
  | n + 1, h => by
    have h1 := sg_abs (n := n) fun k hk => h k (by omega)
    have h2 := h n (by omega)
    unfold sg; omega
theorem sg_nonneg {f : Nat → Int} : ∀ {n : Nat}, (∀ k, k < n → 0 ≤ f k) → 0 ≤ sg f n
  | 0, _ => Int.le_refl _
  | n + 1, h => by
    have h1 := sg_nonneg (n := n) fun k hk => h k (by omega)
    have h2 := h n (by omega)
    unfold sg; omega
theorem sg_const (c : Int) : ∀ n : Nat, sg (fun _ => c) n = n * c
  | 0 => by simp [sg]
  | n + 1 => by unfold sg; rw [sg_const c n, Int.natCast_add, Int.add_mul]; simp
theorem sg_mul (c : Int) (f : Nat → Int) : ∀ n : Nat, sg (fun k => c * f k) n = c * sg f n
  | 0 => by simp [sg]
  | n + 1 => by unfold sg; rw [sg_mul c f n, Int.mul_add]
theorem sg_add (f g : Nat → Int) : ∀ n : Nat, sg (fun k => f k + g k) n = sg f n + sg g n
  | 0 => rfl
  | n + 1 => by unfold sg; rw [sg_add f g n]; omega
/-- One number among nonnegative ones. -/
theorem sg_one {f : Nat → Int} {a : Nat} : ∀ {n : Nat}, a < n → (∀ k, k < n → 0 ≤ f k) → f a ≤ sg f n
  | 0, h, _ => absurd h (Nat.not_lt_zero _)
  | n + 1, h, h0 => by
    unfold sg
    have h2 := h0 n (by omega)
    by_cases e : a = n
    · subst e
      have := sg_nonneg (n := a) fun k hk => h0 k (by omega)
      omega
    · have := sg_one (a := a) (n := n) (by omega) fun k hk => h0 k (by omega)
      omega
def ab (x : Int) : Int := (x.natAbs : Int)
theorem ab_bd (x : Int) : 0 ≤ ab x ∧ -(ab x) ≤ x ∧ x ≤ ab x := by unfold ab; omega
theorem ab_mul (x y : Int) : ab (x * y) = ab x * ab y := by unfold ab; rw [Int.natAbs_mul, Int.natCast_mul]
theorem ab_le {x k : Int} (h : ab x ≤ k) : -k ≤ x ∧ x ≤ k := by unfold ab at h; omega
theorem le_ab {x k : Int} (h : -k ≤ x ∧ x ≤ k) : ab x ≤ k := by unfold ab; omega
theorem ab_add (x y : Int) : ab (x + y) ≤ ab x + ab y := by unfold ab; omega
theorem sg_ab (f : Nat → Int) : ∀ n : Nat, ab (sg f n) ≤ sg (fun k => ab (f k)) n
  | 0 => by simp [sg, ab]
  | n + 1 => by
    have h := sg_ab f n
    have := ab_add (sg f n) (f n)
    unfold sg; omega
/-- The sum of products of two rows, weighted. -/
def gr (a b e : Nat → Int) : Int := sg (fun k => a k * b k * e k) 48
theorem gr_comm (a b e : Nat → Int) : gr a b e = gr b a e := sg_congr fun k _ => by rw [Int.mul_comm (a k)]
theorem el_id (a b v e r s ρ σ O u t : Int) (h1 : O * r = u * v + ρ) (h2 : O * s = t * v + σ) :
    O * O * ((a - r) * (b - s) * e) = O * O * (a * b * e) - O * u * (b * v * e) - O * t * (a * v * e) + u * t * (v * v * e) - O * (ρ * (b - s) * e) - O * (σ * (a - r) * e) - ρ * σ * e := by
  obtain rfl : ρ = O * r - u * v := by omega
  obtain rfl : σ = O * s - t * v := by omega
  grind
theorem el_sum (a b v e r s ρ σ : Nat → Int) (O u t : Int) : ∀ n : Nat, (∀ k, k < n → O * r k = u * v k + ρ k) → (∀ k, k < n → O * s k = t * v k + σ k) →
    O * O * sg (fun k => (a k - r k) * (b k - s k) * e k) n = O * O * sg (fun k => a k * b k * e k) n - O * u * sg (fun k => b k * v k * e k) n - O * t * sg (fun k => a k * v k * e k) n + u * t * sg (fun k => v k * v k * e k) n
      - O * sg (fun k => ρ k * (b k - s k) * e k) n - O * sg (fun k => σ k * (a k - r k) * e k) n - sg (fun k => ρ k * σ k * e k) n
  | 0, _, _ => by simp [sg]
  | n + 1, h1, h2 => by
    have ih := el_sum a b v e r s ρ σ O u t n (fun k hk => h1 k (by omega)) (fun k hk => h2 k (by omega))
    have hn := el_id (a n) (b n) (v n) (e n) (r n) (s n) (ρ n) (σ n) O u t (h1 n (by omega)) (h2 n (by omega))
    simp only [sg, Int.mul_add]
    omega
/-- What is left of two rows, told by what they were and the multiples that were taken away. -/
theorem el_core {a b v e r s ρ σ : Nat → Int} {O u t d εa εb εv : Int} (hr : ∀ k, k < 48 → O * r k = u * v k + ρ k) (hs : ∀ k, k < 48 → O * s k = t * v k + σ k)
    (hA : gr a v e = O * d * u - εa) (hB : gr b v e = O * d * t - εb) (hV : gr v v e = O * O * d - εv) :
    O * O * gr (fun k => a k - r k) (fun k => b k - s k) e = O * O * gr a b e - O * O * (u * t * d) + O * (u * εb) + O * (t * εa) - u * t * εv
      - O * sg (fun k => ρ k * (b k - s k) * e k) 48 - O * sg (fun k => σ k * (a k - r k) * e k) 48 - sg (fun k => ρ k * σ k * e k) 48 := by
  have h := el_sum a b v e r s ρ σ O u t 48 hr hs
  unfold gr at *
  rw [hA, hB, hV] at h
  generalize sg (fun k => (a k - r k) * (b k - s k) * e k) 48 = X at *
  generalize sg (fun k => a k * b k * e k) 48 = Y at *
  generalize sg (fun k => ρ k * (b k - s k) * e k) 48 = Z1 at *
  generalize sg (fun k => σ k * (a k - r k) * e k) 48 = Z2 at *
  generalize sg (fun k => ρ k * σ k * e k) 48 = Z3 at *
  grind
/-- A sum of products with numbers up to m. -/
theorem sg_bd {x y : Nat → Int} {m : Int} {n : Nat} (h : ∀ k, k < n → ab (x k) ≤ m) : ab (sg (fun k => x k * y k) n) ≤ m * sg (fun k => ab (y k)) n := by
  rw [← sg_mul]
  refine Int.le_trans (sg_ab _ _) (sg_le fun k hk => ?_)
  rw [ab_mul]
  exact Int.mul_le_mul_of_nonneg_right (h k hk) (ab_bd _).1
theorem sq_nn (x : Int) : 0 ≤ x * x := by
  by_cases h : 0 ≤ x
  · exact Int.mul_nonneg h h
  · have := Int.mul_nonneg (a := -x) (b := -x) (by omega) (by omega)
    rwa [Int.neg_mul_neg] at this
/-- Products of two rows, by their squares: 2 t x y is at most x x + t t y y. -/
theorem gr_two (a b e : Nat → Int) (he : ∀ k, k < 48 → 0 ≤ e k) (t : Int) : ab (2 * t * gr a b e) ≤ gr a a e + t * t * gr b b e := by
  have h1 : ∀ k, k < 48 → -(a k * a k * e k + t * t * (b k * b k * e k)) ≤ 2 * t * (a k * b k * e k) ∧ 2 * t * (a k * b k * e k) ≤ a k * a k * e k + t * t * (b k * b k * e k) := by
    intro k hk
    have p := Int.mul_nonneg (sq_nn (a k - t * b k)) (he k hk)
    have q := Int.mul_nonneg (sq_nn (a k + t * b k)) (he k hk)
    grind
  have h2 := sg_abs h1
  rw [sg_mul, sg_add, sg_mul] at h2
  exact le_ab h2
theorem cl_rshmul (e : Int) : rsh (1073741824 * e) 30 = e := by
  have h2 : ((2 : Int) ^ 30) = 1073741824 := by decide
  unfold rsh rdiv
  rw [h2]
  have : (1073741824 * e).natAbs = 1073741824 * e.natAbs := by rw [Int.natAbs_mul]; rfl
  rw [this, show (1073741824 : Int).natAbs = 1073741824 from rfl]
  have e1 : (2 * (1073741824 * e.natAbs) + 1073741824) / (2 * 1073741824) = e.natAbs := by omega
  rw [e1]
  by_cases he : 0 ≤ e
  · rw [if_pos (by simp; omega)]; omega
  · rw [if_neg (by simp; omega)]; omega
theorem cl_varV {a : Int} (h : 1 ≤ a) (h' : a ≤ 72057594037927936) : varV a = a ∧ varH a = false := by
  constructor
  · unfold varV clampV; rw [if_neg (by omega), if_neg (by omega), if_neg (by omega)]
  · unfold varH clampH; simp; omega
theorem cl_subV {a b : Int} (ha : SB a) (hb : SB b) (h : SB (a - b)) : subV a b = a - b ∧ subH a b = false := by
  unfold subV subH
  rw [satV_sb ha, satV_sb hb, satV_sb h, satH_sb ha, satH_sb hb, satH_sb h]; exact ⟨rfl, rfl⟩
theorem cl_rdivnn {x d : Int} (hx : 0 ≤ x) (hd : 0 < d) : 0 ≤ rdiv x d := by
  unfold rdiv
  rw [if_pos (by simp [hx, hd])]; exact Int.natCast_nonneg _
theorem cl_divV {a b : Int} (ha : SB a) (hb : SB b) (h0 : b ≠ 0) (h : SB (rdiv (a * 1073741824) b)) : divV a b 30 = rdiv (a * 1073741824) b ∧ divH a b 30 = false := by
  have e : (2 : Int) ^ (30 : Int).toNat = 1073741824 := by decide
  unfold divV divH byV byH
  rw [if_neg (by decide), satV_sb ha, satV_sb hb, e, satV_sb h, satH_sb ha, satH_sb hb, satH_sb h, if_neg h0]
  refine ⟨rfl, ?_⟩
  simp; exact h0
theorem cl_rshnp {x : Int} (h : x ≤ 0) : rsh x 30 ≤ 0 := by
  have := rsh_err x
  omega
theorem cl_rshnn {x : Int} (h : 0 ≤ x) : 0 ≤ rsh x 30 := cl_rdivnn h (by decide)
theorem cl_rdiv0 {d : Int} (h : d ≠ 0) : rdiv 0 d = 0 := by
  unfold rdiv
  have : (2 * (0 : Int).natAbs + d.natAbs) / (2 * d.natAbs) = 0 := Nat.div_eq_of_lt (by have := Int.natAbs_pos.2 h; simp; omega)
  rw [this]
  split <;> rfl
end Go.Proofs.Ytcombidoaghlbaa
