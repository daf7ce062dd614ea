/- Contract of wide.Add at lists of W. -/
import Derived.Test.YtcbklolfibdffaaWide7
import Derived.Deep.LoopGhost
namespace Go.Proofs.Ytcbklolfibdffaa
open Go.RowKit
set_option maxRecDepth 100000
/-- wide.Add at two. -/
theorem wadd2_any (A B S : Int) (p c : Nat) (w : World) (a1 : -170141183460469231731687303715884105728 ≤ A) (a2 : A < 170141183460469231731687303715884105728)
    (b1 : -170141183460469231731687303715884105728 ≤ B) (b2 : B < 170141183460469231731687303715884105728)
    (hS : A + B = S) (s1 : -170141183460469231731687303715884105728 ≤ S) (s2 : S < 170141183460469231731687303715884105728)
    (c0 : w.cell? ⟨p, 0, none⟩ = some (.int .i64 (hi64 A))) (c1 : w.cell? ⟨p, 1, none⟩ = some (.int .u64 (lo64 A)))
    (c2 : w.cell? ⟨p, 2, none⟩ = some (.int .i64 (hi64 B))) (c3 : w.cell? ⟨p, 3, none⟩ = some (.int .u64 (lo64 B))) :
    Calls Try.prog 24 #[.slice (some ⟨p, 0, none⟩) 2 c] w fun e w' =>
      e = .returned (.tuple #[.agg #[.int .i64 (hi64 S), .int .u64 (lo64 S)], .bool true]) ∧ Below w.heap.size w w' := by
  have hp : p < w.heap.size := World.block_lt_of_cell? w _ c0
  go_enter Try.func24, Try.ntmps24
  go_wp2_with fail
  refine wp_loop_rounds 3 ?_
  rw [rounds_succ]
  go_wp2_with fail
  refine (add_any 0 A A _ (by decide) (by decide) a1 a2 (by omega) a1 a2).mono ?_; rintro e w1 ⟨rfl, hb1⟩
  have hpz : p < w.heap.size + 1 := by omega
  have hb1z0 : w.heap.size < w1.heap.size := by have := hb1.size; (try simp at this); omega
  have hb1z1 : w.heap.size + 1 < w1.heap.size := by have := hb1.size; (try simp at this); omega
  have hb1z2 : w.heap.size + 1 + 1 < w1.heap.size := by have := hb1.size; (try simp at this); omega
  have hb1c0_0 := hb1.cell (p := ⟨w.heap.size, 0, none⟩) (by (try simp); (try omega))
  have hb1f0_0 := hb1.frozen (p := ⟨w.heap.size, 0, none⟩) (by (try simp); (try omega))
  simp [go_sem, *] at hb1c0_0 hb1f0_0
  have hb1c0_1 := hb1.cell (p := ⟨w.heap.size, 1, none⟩) (by (try simp); (try omega))
  have hb1f0_1 := hb1.frozen (p := ⟨w.heap.size, 1, none⟩) (by (try simp); (try omega))
  simp [go_sem, *] at hb1c0_1 hb1f0_1
  have hb1c1_0 := hb1.cell (p := ⟨w.heap.size + 1, 0, none⟩) (by (try simp); (try omega))
  have hb1f1_0 := hb1.frozen (p := ⟨w.heap.size + 1, 0, none⟩) (by (try simp); (try omega))
  simp [go_sem, *] at hb1c1_0 hb1f1_0
  have hb1c1_1 := hb1.cell (p := ⟨w.heap.size + 1, 1, none⟩) (by (try simp); (try omega))
  have hb1f1_1 := hb1.frozen (p := ⟨w.heap.size + 1, 1, none⟩) (by (try simp); (try omega))
  simp [go_sem, *] at hb1c1_1 hb1f1_1
  have hb1cp_0 := hb1.cell (p := ⟨p, 0, none⟩) (by (try simp); (try omega))
  have hb1fp_0 := hb1.frozen (p := ⟨p, 0, none⟩) (by (try simp); (try omega))
  simp [go_sem, *] at hb1cp_0 hb1fp_0
  have hb1cp_1 := hb1.cell (p := ⟨p, 1, none⟩) (by (try simp); (try omega))
  have hb1fp_1 := hb1.frozen (p := ⟨p, 1, none⟩) (by (try simp); (try omega))
  simp [go_sem, *] at hb1cp_1 hb1fp_1
  have hb1cp_2 := hb1.cell (p := ⟨p, 2, none⟩) (by (try simp); (try omega))
  have hb1fp_2 := hb1.frozen (p := ⟨p, 2, none⟩) (by (try simp); (try omega))
  simp [go_sem, *] at hb1cp_2 hb1fp_2
  have hb1cp_3 := hb1.cell (p := ⟨p, 3, none⟩) (by (try simp); (try omega))
  have hb1fp_3 := hb1.frozen (p := ⟨p, 3, none⟩) (by (try simp); (try omega))
  simp [go_sem, *] at hb1cp_3 hb1fp_3
  have hp1 : p < w1.heap.size := by omega
  go_wp2_with fail
  rw [rounds_succ]
  go_wp2_with fail
  refine (add_any A B S _ a1 a2 b1 b2 hS s1 s2).mono ?_; rintro e w2 ⟨rfl, hb2⟩
  have hb2z0 : w.heap.size < w2.heap.size := by have := hb2.size; (try simp at this); omega
  have hb2z1 : w.heap.size + 1 < w2.heap.size := by have := hb2.size; (try simp at this); omega
  have hb2z2 : w.heap.size + 1 + 1 < w2.heap.size := by have := hb2.size; (try simp at this); omega
  have hb2c0_0 := hb2.cell (p := ⟨w.heap.size, 0, none⟩) (by (try simp); (try omega))
  have hb2f0_0 := hb2.frozen (p := ⟨w.heap.size, 0, none⟩) (by (try simp); (try omega))
  simp [go_sem, *] at hb2c0_0 hb2f0_0
  have hb2c0_1 := hb2.cell (p := ⟨w.heap.size, 1, none⟩) (by (try simp); (try omega))
  have hb2f0_1 := hb2.frozen (p := ⟨w.heap.size, 1, none⟩) (by (try simp); (try omega))
  simp [go_sem, *] at hb2c0_1 hb2f0_1
  have hb2c1_0 := hb2.cell (p := ⟨w.heap.size + 1, 0, none⟩) (by (try simp); (try omega))
  have hb2f1_0 := hb2.frozen (p := ⟨w.heap.size + 1, 0, none⟩) (by (try simp); (try omega))
  simp [go_sem, *] at hb2c1_0 hb2f1_0
  have hb2c1_1 := hb2.cell (p := ⟨w.heap.size + 1, 1, none⟩) (by (try simp); (try omega))
  have hb2f1_1 := hb2.frozen (p := ⟨w.heap.size + 1, 1, none⟩) (by (try simp); (try omega))
  simp [go_sem, *] at hb2c1_1 hb2f1_1
  go_wp2_with fail
  rw [rounds_succ]
  go_wp2_with fail
  simp [bodyPost, results, Try.results24, go_sem, hb2c0_0, hb2c0_1, hb2z0]
  (repeat (first | with_reducible exact Below.refl _ _ | with_reducible assumption | with_reducible apply Below.drew | (with_reducible refine below_drewN ?_ _) | (with_reducible refine Below.alloc ?_ (by (try simp) <;> omega) _) | (with_reducible refine Below.setCell ?_ (by (try simp) <;> omega) _) | (with_reducible refine Below.trans ?_ (Below.mono (by assumption) (by (try simp) <;> omega)))))
end Go.Proofs.Ytcbklolfibdffaa
