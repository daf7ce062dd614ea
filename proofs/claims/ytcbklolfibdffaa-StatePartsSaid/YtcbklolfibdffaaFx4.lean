/- Contracts of package fx (4): Div, MulDiv. -/
import Derived.Test.YtcbklolfibdffaaFx3
namespace Go.Proofs.Ytcbklolfibdffaa
open Go.RowKit
set_option maxRecDepth 100000
theorem fdiv_walk (c : Addr) (h : Bool) (a b s x y A V : Int) (H : Bool) (w : World) (hc : w.cell? c = some (.bool h)) (hf : w.frozen? c = false) (s0 : 0 ≤ s) (s1 : s ≤ 66)
    (hx : satV a = x) (hy : satV b = y)
    (hm : ∀ w, Calls Try.prog 43 #[.int .i64 x, .int .i64 s] w fun e w' => e = .returned (.tuple #[.agg #[.int .i64 (hi64 A), .int .u64 (lo64 A)], .bool true]) ∧ Below w.heap.size w w')
    (hr : ∀ w, w.cell? c = some (.bool (h || satH a || satH b)) → w.frozen? c = false → Calls Try.prog 44 #[.pointer (some c), .agg #[.int .i64 (hi64 A), .int .u64 (lo64 A)], .int .i64 y] w fun e w' =>
      e = .returned (.int .i64 V) ∧ Upd c H w w') :
    Calls Try.prog 28 #[.pointer (some c), .int .i64 a, .int .i64 b, .int .i64 s] w fun e w' => e = .returned (.int .i64 V) ∧ Upd c H w w' := by
  have hcb := World.block_lt_of_cell? w c hc
  have n1 : ¬ s < 0 := by omega
  have n2 : ¬ 66 < s := by omega
  have c1 : (w.setCell c (.bool (h || satH a))).cell? c = some (.bool (h || satH a)) := World.cell?_setCell_same _ _ _ hc
  have c2 : ((w.setCell c (.bool (h || satH a))).setCell c (.bool (h || satH a || satH b))).cell? c = some (.bool (h || satH a || satH b)) := World.cell?_setCell_same _ _ _ c1
  have HM := Lib.hid hm
  have HR := Lib.hid hr
  have C2 := Lib.hid c2
  clear hm hr c2
  go_enter Try.func28, Try.ntmps28
  go_wp2_with fail
  refine (sat_any c h a _ hc hf).mono ?_; rintro e w' ⟨rfl, rfl⟩
  go_wp2_with fail
  refine (sat_any c _ b _ c1 (by simp [hf])).mono ?_; rintro e w' ⟨rfl, rfl⟩
  have HW := Lib.hid (Upd.trans (Upd.set c (h || satH a) w) (Upd.set c (h || satH a || satH b) _))
  have F2 : ((w.setCell c (.bool (h || satH a))).setCell c (.bool (h || satH a || satH b))).frozen? c = false := by simp [hf]
  have Z2 := Upd.size HW.out
  obtain ⟨w2, hw2⟩ : ∃ w2, (w.setCell c (.bool (h || satH a))).setCell c (.bool (h || satH a || satH b)) = w2 := ⟨_, rfl⟩
  rw [hw2] at HW C2 F2 Z2 ⊢
  clear hw2 c1 hc hf
  go_wp2_with fail
  refine (HM.out _).mono ?_; rintro e w3 ⟨rfl, hb3⟩
  have k1 : w3.cell? c = some (.bool (h || satH a || satH b)) := (hb3.cell (by omega)).trans C2.out
  have k2 : w3.frozen? c = false := (hb3.frozen (by omega)).trans F2
  have hz := hb3.size
  have k3 : ∀ o, (w3.alloc o).cell? c = some (.bool (h || satH a || satH b)) := fun o => by rw [World.cell?_alloc_lt _ _ _ (by omega)]; exact k1
  have k4 : ∀ cs t, (w3.alloc (.cells cs t)).frozen? c = false := fun cs t => by rw [frozen?_alloc_cells]; exact k2
  go_wp2_with fail
  refine (HR.out _ (k3 _) (k4 _ _)).mono ?_; rintro e w4 ⟨rfl, hu4⟩
  go_wp2_with fail
  go_ret
  refine ⟨rfl, ?_⟩
  exact HW.out.trans (Upd.after hb3 (Upd.after (by (repeat (first | with_reducible exact Below.refl _ _ | with_reducible apply Below.drew | (with_reducible refine below_drewN ?_ _) | (with_reducible refine Below.alloc ?_ (by (try simp) <;> omega) _) | (with_reducible refine Below.setCell ?_ (by (try simp) <;> omega) _)))) hu4))
theorem fdiv_bad (c : Addr) (h : Bool) (a b s : Int) (w : World) (hc : w.cell? c = some (.bool h)) (hf : w.frozen? c = false) (hs : s < 0 ∨ 66 < s) :
    Calls Try.prog 28 #[.pointer (some c), .int .i64 a, .int .i64 b, .int .i64 s] w fun e w' => e = .returned (.int .i64 0) ∧ Upd c true w w' := by
  have c1 : (w.setCell c (.bool (h || satH a))).cell? c = some (.bool (h || satH a)) := World.cell?_setCell_same _ _ _ hc
  have c2 : ((w.setCell c (.bool (h || satH a))).setCell c (.bool (h || satH a || satH b))).cell? c = some (.bool (h || satH a || satH b)) := World.cell?_setCell_same _ _ _ c1
  by_cases h1 : s < 0
  · clear hs
    go_enter Try.func28, Try.ntmps28
    go_wp2_with fail
    refine (sat_any c h a _ hc hf).mono ?_; rintro e w' ⟨rfl, rfl⟩
    go_wp2_with fail
    refine (sat_any c _ b _ c1 (by simp [hf])).mono ?_; rintro e w' ⟨rfl, rfl⟩
    go_wp2_with fail
    go_ret
    exact ⟨rfl, Upd.trans (Upd.trans (Upd.set c _ w) (Upd.set c _ _)) (Upd.set c true _)⟩
  · have h2 : 66 < s := by omega
    clear hs
    go_enter Try.func28, Try.ntmps28
    go_wp2_with fail
    refine (sat_any c h a _ hc hf).mono ?_; rintro e w' ⟨rfl, rfl⟩
    go_wp2_with fail
    refine (sat_any c _ b _ c1 (by simp [hf])).mono ?_; rintro e w' ⟨rfl, rfl⟩
    go_wp2_with fail
    go_ret
    exact ⟨rfl, Upd.trans (Upd.trans (Upd.set c _ w) (Upd.set c _ _)) (Upd.set c true _)⟩
theorem fdiv_any (c : Addr) (h : Bool) (a b s : Int) (w : World) (hc : w.cell? c = some (.bool h)) (hf : w.frozen? c = false) :
    Calls Try.prog 28 #[.pointer (some c), .int .i64 a, .int .i64 b, .int .i64 s] w fun e w' => e = .returned (.int .i64 (divV a b s)) ∧ Upd c (h || divH a b s) w w' := by
  have ha := satV_bd a
  have hb := satV_bd b
  by_cases hs : s < 0 ∨ 66 < s
  · have e1 : divV a b s = 0 := by simp [divV, hs]
    have e2 : (h || divH a b s) = true := by simp [divH, hs]
    rw [e1, e2]
    exact fdiv_bad c h a b s w hc hf hs
  · have hp := shift_bd a s (by omega) (by omega)
    have e1 : divV a b s = byV (satV a * 2 ^ s.toNat) (satV b) := by simp only [divV, if_neg hs]
    have e2 : (h || divH a b s) = ((h || satH a || satH b) || byH (satV a * 2 ^ s.toNat) (satV b)) := by simp [divH, hs, Bool.or_assoc]
    rw [e1, e2]
    exact fdiv_walk c h a b s _ _ _ _ _ w hc hf (by omega) (by omega) rfl rfl (fun w => shift_any _ _ _ w (by omega) (by omega) (by omega) (by omega) rfl)
      (fun w k1 k2 => by_any c _ _ _ w k1 k2 (by omega) (by omega) (by omega) (by omega))

end Go.Proofs.Ytcbklolfibdffaa
