/- Contract of wide.Add at four numbers; append of a W to a slice of the call's own. -/
import Derived.Test.YtcbklolfibdffaaWadd
import Derived.Test.YtcbklolfibdffaaOwn
import Derived.Deep.AppendLies
namespace Go.Proofs.Ytcbklolfibdffaa
open Go.RowKit
set_option maxRecDepth 100000
set_option maxHeartbeats 2000000 in
theorem wadd4_any (A B C D S2 S3 S4 : Int) (p c : Nat) (w : World) (rA : -1329227995784915872903807060280344576 ≤ A ∧ A ≤ 1329227995784915872903807060280344576)
    (rB : -1329227995784915872903807060280344576 ≤ B ∧ B ≤ 1329227995784915872903807060280344576) (rC : -1329227995784915872903807060280344576 ≤ C ∧ C ≤ 1329227995784915872903807060280344576) (rD : -1329227995784915872903807060280344576 ≤ D ∧ D ≤ 1329227995784915872903807060280344576)
    (h2 : A + B = S2) (h3 : S2 + C = S3) (h4 : S3 + D = S4)
    (c0 : w.cell? ⟨p, 0, none⟩ = some (.int .i64 (hi64 A))) (c1 : w.cell? ⟨p, 1, none⟩ = some (.int .u64 (lo64 A)))
    (c2 : w.cell? ⟨p, 2, none⟩ = some (.int .i64 (hi64 B))) (c3 : w.cell? ⟨p, 3, none⟩ = some (.int .u64 (lo64 B)))
    (c4 : w.cell? ⟨p, 4, none⟩ = some (.int .i64 (hi64 C))) (c5 : w.cell? ⟨p, 5, none⟩ = some (.int .u64 (lo64 C)))
    (c6 : w.cell? ⟨p, 6, none⟩ = some (.int .i64 (hi64 D))) (c7 : w.cell? ⟨p, 7, none⟩ = some (.int .u64 (lo64 D))) :
    Calls Try.prog 24 #[.slice (some ⟨p, 0, none⟩) 4 c] w fun e w' =>
      e = .returned (.tuple #[.agg #[.int .i64 (hi64 S4), .int .u64 (lo64 S4)], .bool true]) ∧ Below w.heap.size w w' := by
  have hp : p < w.heap.size := World.block_lt_of_cell? w _ c0
  have A1 := Lib.hid (fun w => add_any 0 A A w (by decide) (by decide) (by omega) (by omega) (by omega) (by omega) (by omega))
  have A2 := Lib.hid (fun w => add_any A B S2 w (by omega) (by omega) (by omega) (by omega) h2 (by omega) (by omega))
  have A3 := Lib.hid (fun w => add_any S2 C S3 w (by omega) (by omega) (by omega) (by omega) h3 (by omega) (by omega))
  have A4 := Lib.hid (fun w => add_any S3 D S4 w (by omega) (by omega) (by omega) (by omega) h4 (by omega) (by omega))
  clear rA rB rC rD h2 h3 h4
  go_enter Try.func24, Try.ntmps24
  go_wp2_with fail
  refine wp_loop_rounds 5 ?_
  rw [rounds_succ]
  go_wp2_with fail
  refine (A1.out _).mono ?_; rintro e w1 ⟨rfl, hb1⟩
  have hpz : p < w.heap.size + 1 := by omega
  have hb1z0 : w.heap.size < w1.heap.size := by have := hb1.size; (try simp at this); omega
  have hb1z1 : w.heap.size + 1 < w1.heap.size := by have := hb1.size; (try simp at this); omega
  have hb1z2 : w.heap.size + 1 + 1 < w1.heap.size := by have := hb1.size; (try simp at this); omega
  have hb1c0_0 := hb1.cell (p := ⟨w.heap.size, 0, none⟩) (by (try simp); (try omega))
  have hb1f0_0 := hb1.frozen (p := ⟨w.heap.size, 0, none⟩) (by (try simp); (try omega))
  simp [go_sem, *] at hb1c0_0 hb1f0_0
  have hb1c0_1 := hb1.cell (p := ⟨w.heap.size, 1, none⟩) (by (try simp); (try omega))
  have hb1f0_1 := hb1.frozen (p := ⟨w.heap.size, 1, none⟩) (by (try simp); (try omega))
  simp [go_sem, *] at hb1c0_1 hb1f0_1
  have hb1c1_0 := hb1.cell (p := ⟨w.heap.size + 1, 0, none⟩) (by (try simp); (try omega))
  have hb1f1_0 := hb1.frozen (p := ⟨w.heap.size + 1, 0, none⟩) (by (try simp); (try omega))
  simp [go_sem, *] at hb1c1_0 hb1f1_0
  have hb1c1_1 := hb1.cell (p := ⟨w.heap.size + 1, 1, none⟩) (by (try simp); (try omega))
  have hb1f1_1 := hb1.frozen (p := ⟨w.heap.size + 1, 1, none⟩) (by (try simp); (try omega))
  simp [go_sem, *] at hb1c1_1 hb1f1_1
  have hb1cp_0 := hb1.cell (p := ⟨p, 0, none⟩) (by (try simp); (try omega))
  have hb1fp_0 := hb1.frozen (p := ⟨p, 0, none⟩) (by (try simp); (try omega))
  simp [go_sem, *] at hb1cp_0 hb1fp_0
  have hb1cp_1 := hb1.cell (p := ⟨p, 1, none⟩) (by (try simp); (try omega))
  have hb1fp_1 := hb1.frozen (p := ⟨p, 1, none⟩) (by (try simp); (try omega))
  simp [go_sem, *] at hb1cp_1 hb1fp_1
  have hb1cp_2 := hb1.cell (p := ⟨p, 2, none⟩) (by (try simp); (try omega))
  have hb1fp_2 := hb1.frozen (p := ⟨p, 2, none⟩) (by (try simp); (try omega))
  simp [go_sem, *] at hb1cp_2 hb1fp_2
  have hb1cp_3 := hb1.cell (p := ⟨p, 3, none⟩) (by (try simp); (try omega))
  have hb1fp_3 := hb1.frozen (p := ⟨p, 3, none⟩) (by (try simp); (try omega))
  simp [go_sem, *] at hb1cp_3 hb1fp_3
  have hb1cp_4 := hb1.cell (p := ⟨p, 4, none⟩) (by (try simp); (try omega))
  have hb1fp_4 := hb1.frozen (p := ⟨p, 4, none⟩) (by (try simp); (try omega))
  simp [go_sem, *] at hb1cp_4 hb1fp_4
  have hb1cp_5 := hb1.cell (p := ⟨p, 5, none⟩) (by (try simp); (try omega))
  have hb1fp_5 := hb1.frozen (p := ⟨p, 5, none⟩) (by (try simp); (try omega))
  simp [go_sem, *] at hb1cp_5 hb1fp_5
  have hb1cp_6 := hb1.cell (p := ⟨p, 6, none⟩) (by (try simp); (try omega))
  have hb1fp_6 := hb1.frozen (p := ⟨p, 6, none⟩) (by (try simp); (try omega))
  simp [go_sem, *] at hb1cp_6 hb1fp_6
  have hb1cp_7 := hb1.cell (p := ⟨p, 7, none⟩) (by (try simp); (try omega))
  have hb1fp_7 := hb1.frozen (p := ⟨p, 7, none⟩) (by (try simp); (try omega))
  simp [go_sem, *] at hb1cp_7 hb1fp_7
  have hp1 : p < w1.heap.size := by omega
  clear c0 c1 c2 c3 c4 c5 c6 c7
  go_wp2_with fail
  rw [rounds_succ]
  go_wp2_with fail
  refine (A2.out _).mono ?_; rintro e w2 ⟨rfl, hb2⟩
  have hb2z0 : w.heap.size < w2.heap.size := by have := hb2.size; (try simp at this); omega
  have hb2z1 : w.heap.size + 1 < w2.heap.size := by have := hb2.size; (try simp at this); omega
  have hb2z2 : w.heap.size + 1 + 1 < w2.heap.size := by have := hb2.size; (try simp at this); omega
  have hb2c0_0 := hb2.cell (p := ⟨w.heap.size, 0, none⟩) (by (try simp); (try omega))
  have hb2f0_0 := hb2.frozen (p := ⟨w.heap.size, 0, none⟩) (by (try simp); (try omega))
  simp [go_sem, *] at hb2c0_0 hb2f0_0
  have hb2c0_1 := hb2.cell (p := ⟨w.heap.size, 1, none⟩) (by (try simp); (try omega))
  have hb2f0_1 := hb2.frozen (p := ⟨w.heap.size, 1, none⟩) (by (try simp); (try omega))
  simp [go_sem, *] at hb2c0_1 hb2f0_1
  have hb2c1_0 := hb2.cell (p := ⟨w.heap.size + 1, 0, none⟩) (by (try simp); (try omega))
  have hb2f1_0 := hb2.frozen (p := ⟨w.heap.size + 1, 0, none⟩) (by (try simp); (try omega))
  simp [go_sem, *] at hb2c1_0 hb2f1_0
  have hb2c1_1 := hb2.cell (p := ⟨w.heap.size + 1, 1, none⟩) (by (try simp); (try omega))
  have hb2f1_1 := hb2.frozen (p := ⟨w.heap.size + 1, 1, none⟩) (by (try simp); (try omega))
  simp [go_sem, *] at hb2c1_1 hb2f1_1
  have hb2cp_0 := hb2.cell (p := ⟨p, 0, none⟩) (by (try simp); (try omega))
  have hb2fp_0 := hb2.frozen (p := ⟨p, 0, none⟩) (by (try simp); (try omega))
  simp [go_sem, *] at hb2cp_0 hb2fp_0
  have hb2cp_1 := hb2.cell (p := ⟨p, 1, none⟩) (by (try simp); (try omega))
  have hb2fp_1 := hb2.frozen (p := ⟨p, 1, none⟩) (by (try simp); (try omega))
  simp [go_sem, *] at hb2cp_1 hb2fp_1
  have hb2cp_2 := hb2.cell (p := ⟨p, 2, none⟩) (by (try simp); (try omega))
  have hb2fp_2 := hb2.frozen (p := ⟨p, 2, none⟩) (by (try simp); (try omega))
  simp [go_sem, *] at hb2cp_2 hb2fp_2
  have hb2cp_3 := hb2.cell (p := ⟨p, 3, none⟩) (by (try simp); (try omega))
  have hb2fp_3 := hb2.frozen (p := ⟨p, 3, none⟩) (by (try simp); (try omega))
  simp [go_sem, *] at hb2cp_3 hb2fp_3
  have hb2cp_4 := hb2.cell (p := ⟨p, 4, none⟩) (by (try simp); (try omega))
  have hb2fp_4 := hb2.frozen (p := ⟨p, 4, none⟩) (by (try simp); (try omega))
  simp [go_sem, *] at hb2cp_4 hb2fp_4
  have hb2cp_5 := hb2.cell (p := ⟨p, 5, none⟩) (by (try simp); (try omega))
  have hb2fp_5 := hb2.frozen (p := ⟨p, 5, none⟩) (by (try simp); (try omega))
  simp [go_sem, *] at hb2cp_5 hb2fp_5
  have hb2cp_6 := hb2.cell (p := ⟨p, 6, none⟩) (by (try simp); (try omega))
  have hb2fp_6 := hb2.frozen (p := ⟨p, 6, none⟩) (by (try simp); (try omega))
  simp [go_sem, *] at hb2cp_6 hb2fp_6
  have hb2cp_7 := hb2.cell (p := ⟨p, 7, none⟩) (by (try simp); (try omega))
  have hb2fp_7 := hb2.frozen (p := ⟨p, 7, none⟩) (by (try simp); (try omega))
  simp [go_sem, *] at hb2cp_7 hb2fp_7
  have hp2 : p < w2.heap.size := by have := hb2.size; (try simp at this); omega
  go_wp2_with fail
  rw [rounds_succ]
  go_wp2_with fail
  refine (A3.out _).mono ?_; rintro e w3 ⟨rfl, hb3⟩
  have hb3z0 : w.heap.size < w3.heap.size := by have := hb3.size; (try simp at this); omega
  have hb3z1 : w.heap.size + 1 < w3.heap.size := by have := hb3.size; (try simp at this); omega
  have hb3z2 : w.heap.size + 1 + 1 < w3.heap.size := by have := hb3.size; (try simp at this); omega
  have hb3c0_0 := hb3.cell (p := ⟨w.heap.size, 0, none⟩) (by (try simp); (try omega))
  have hb3f0_0 := hb3.frozen (p := ⟨w.heap.size, 0, none⟩) (by (try simp); (try omega))
  simp [go_sem, *] at hb3c0_0 hb3f0_0
  have hb3c0_1 := hb3.cell (p := ⟨w.heap.size, 1, none⟩) (by (try simp); (try omega))
  have hb3f0_1 := hb3.frozen (p := ⟨w.heap.size, 1, none⟩) (by (try simp); (try omega))
  simp [go_sem, *] at hb3c0_1 hb3f0_1
  have hb3c1_0 := hb3.cell (p := ⟨w.heap.size + 1, 0, none⟩) (by (try simp); (try omega))
  have hb3f1_0 := hb3.frozen (p := ⟨w.heap.size + 1, 0, none⟩) (by (try simp); (try omega))
  simp [go_sem, *] at hb3c1_0 hb3f1_0
  have hb3c1_1 := hb3.cell (p := ⟨w.heap.size + 1, 1, none⟩) (by (try simp); (try omega))
  have hb3f1_1 := hb3.frozen (p := ⟨w.heap.size + 1, 1, none⟩) (by (try simp); (try omega))
  simp [go_sem, *] at hb3c1_1 hb3f1_1
  have hb3cp_0 := hb3.cell (p := ⟨p, 0, none⟩) (by (try simp); (try omega))
  have hb3fp_0 := hb3.frozen (p := ⟨p, 0, none⟩) (by (try simp); (try omega))
  simp [go_sem, *] at hb3cp_0 hb3fp_0
  have hb3cp_1 := hb3.cell (p := ⟨p, 1, none⟩) (by (try simp); (try omega))
  have hb3fp_1 := hb3.frozen (p := ⟨p, 1, none⟩) (by (try simp); (try omega))
  simp [go_sem, *] at hb3cp_1 hb3fp_1
  have hb3cp_2 := hb3.cell (p := ⟨p, 2, none⟩) (by (try simp); (try omega))
  have hb3fp_2 := hb3.frozen (p := ⟨p, 2, none⟩) (by (try simp); (try omega))
  simp [go_sem, *] at hb3cp_2 hb3fp_2
  have hb3cp_3 := hb3.cell (p := ⟨p, 3, none⟩) (by (try simp); (try omega))
  have hb3fp_3 := hb3.frozen (p := ⟨p, 3, none⟩) (by (try simp); (try omega))
  simp [go_sem, *] at hb3cp_3 hb3fp_3
  have hb3cp_4 := hb3.cell (p := ⟨p, 4, none⟩) (by (try simp); (try omega))
  have hb3fp_4 := hb3.frozen (p := ⟨p, 4, none⟩) (by (try simp); (try omega))
  simp [go_sem, *] at hb3cp_4 hb3fp_4
  have hb3cp_5 := hb3.cell (p := ⟨p, 5, none⟩) (by (try simp); (try omega))
  have hb3fp_5 := hb3.frozen (p := ⟨p, 5, none⟩) (by (try simp); (try omega))
  simp [go_sem, *] at hb3cp_5 hb3fp_5
  have hb3cp_6 := hb3.cell (p := ⟨p, 6, none⟩) (by (try simp); (try omega))
  have hb3fp_6 := hb3.frozen (p := ⟨p, 6, none⟩) (by (try simp); (try omega))
  simp [go_sem, *] at hb3cp_6 hb3fp_6
  have hb3cp_7 := hb3.cell (p := ⟨p, 7, none⟩) (by (try simp); (try omega))
  have hb3fp_7 := hb3.frozen (p := ⟨p, 7, none⟩) (by (try simp); (try omega))
  simp [go_sem, *] at hb3cp_7 hb3fp_7
  have hp3 : p < w3.heap.size := by have := hb3.size; (try simp at this); omega
  go_wp2_with fail
  rw [rounds_succ]
  go_wp2_with fail
  refine (A4.out _).mono ?_; rintro e w4 ⟨rfl, hb4⟩
  have hb4z0 : w.heap.size < w4.heap.size := by have := hb4.size; (try simp at this); omega
  have hb4z1 : w.heap.size + 1 < w4.heap.size := by have := hb4.size; (try simp at this); omega
  have hb4z2 : w.heap.size + 1 + 1 < w4.heap.size := by have := hb4.size; (try simp at this); omega
  have hb4c0_0 := hb4.cell (p := ⟨w.heap.size, 0, none⟩) (by (try simp); (try omega))
  have hb4f0_0 := hb4.frozen (p := ⟨w.heap.size, 0, none⟩) (by (try simp); (try omega))
  simp [go_sem, *] at hb4c0_0 hb4f0_0
  have hb4c0_1 := hb4.cell (p := ⟨w.heap.size, 1, none⟩) (by (try simp); (try omega))
  have hb4f0_1 := hb4.frozen (p := ⟨w.heap.size, 1, none⟩) (by (try simp); (try omega))
  simp [go_sem, *] at hb4c0_1 hb4f0_1
  have hb4c1_0 := hb4.cell (p := ⟨w.heap.size + 1, 0, none⟩) (by (try simp); (try omega))
  have hb4f1_0 := hb4.frozen (p := ⟨w.heap.size + 1, 0, none⟩) (by (try simp); (try omega))
  simp [go_sem, *] at hb4c1_0 hb4f1_0
  have hb4c1_1 := hb4.cell (p := ⟨w.heap.size + 1, 1, none⟩) (by (try simp); (try omega))
  have hb4f1_1 := hb4.frozen (p := ⟨w.heap.size + 1, 1, none⟩) (by (try simp); (try omega))
  simp [go_sem, *] at hb4c1_1 hb4f1_1
  go_wp2_with fail
  rw [rounds_succ]
  go_wp2_with fail
  simp [bodyPost, results, Try.results24, go_sem, hb4c0_0, hb4c0_1, hb4z0]
  (repeat (first | with_reducible exact Below.refl _ _ | with_reducible assumption | with_reducible apply Below.drew | (with_reducible refine below_drewN ?_ _) | (with_reducible refine Below.alloc ?_ (by (try simp) <;> omega) _) | (with_reducible refine Below.setCell ?_ (by (try simp) <;> omega) _) | (with_reducible refine Below.trans ?_ (Below.mono (by assumption) (by (try simp) <;> omega)))))
end Go.Proofs.Ytcbklolfibdffaa
