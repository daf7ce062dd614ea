/- Contract of fx.MulDiv. -/
import Derived.Test.YtglpbcionohipaaFx4
namespace Go.Proofs.Ytglpbcionohipaa
open Go.RowKit
set_option maxRecDepth 100000
theorem mdiv_walk (c : Addr) (h : Bool) (a b d x y z A V : Int) (H : Bool) (w : World) (hc : w.cell? c = some (.bool h)) (hf : w.frozen? c = false)
    (hx : satV a = x) (hy : satV b = y) (hz : satV d = z)
    (hm : ∀ w, Calls Try.prog 27 #[.int .i64 x, .int .i64 y] w fun e w' => e = .returned (.agg #[.int .i64 (hi64 A), .int .u64 (lo64 A)]) ∧ Below w.heap.size w w')
    (hr : ∀ w, w.cell? c = some (.bool (h || satH a || satH b || satH d)) → w.frozen? c = false → Calls Try.prog 26 #[.pointer (some c), .agg #[.int .i64 (hi64 A), .int .u64 (lo64 A)], .int .i64 z] w fun e w' =>
      e = .returned (.int .i64 V) ∧ Upd c H w w') :
    Calls Try.prog 10 #[.pointer (some c), .int .i64 a, .int .i64 b, .int .i64 d] w fun e w' => e = .returned (.int .i64 V) ∧ Upd c H w w' := by
  have hcb := World.block_lt_of_cell? w c hc
  have c1 : (w.setCell c (.bool (h || satH a))).cell? c = some (.bool (h || satH a)) := World.cell?_setCell_same _ _ _ hc
  have c2 : ((w.setCell c (.bool (h || satH a))).setCell c (.bool (h || satH a || satH b))).cell? c = some (.bool (h || satH a || satH b)) := World.cell?_setCell_same _ _ _ c1
  have HM := Lib.hid hm
  have HR := Lib.hid hr
  have C2 := Lib.hid c2
  clear hm hr c2
  go_enter Try.func10, Try.ntmps10
  go_wp2_with fail
  refine (sat_any c h a _ hc hf).mono ?_; rintro e w' ⟨rfl, rfl⟩
  go_wp2_with fail
  refine (sat_any c _ b _ c1 (by simp [hf])).mono ?_; rintro e w' ⟨rfl, rfl⟩
  have HW := Lib.hid (Upd.trans (Upd.set c (h || satH a) w) (Upd.set c (h || satH a || satH b) _))
  have F2 : ((w.setCell c (.bool (h || satH a))).setCell c (.bool (h || satH a || satH b))).frozen? c = false := by simp [hf]
  have Z2 := Upd.size HW.out
  obtain ⟨w2, hw2⟩ : ∃ w2, (w.setCell c (.bool (h || satH a))).setCell c (.bool (h || satH a || satH b)) = w2 := ⟨_, rfl⟩
  rw [hw2] at HW C2 F2 Z2 ⊢
  clear hw2 c1 hc hf
  go_wp2_with fail
  refine (HM.out _).mono ?_; rintro e w3 ⟨rfl, hb3⟩
  have k1 : w3.cell? c = some (.bool (h || satH a || satH b)) := (hb3.cell (by omega)).trans C2.out
  have k2 : w3.frozen? c = false := (hb3.frozen (by omega)).trans F2
  go_wp2_with fail
  refine (sat_any c _ d _ k1 k2).mono ?_; rintro e w' ⟨rfl, rfl⟩
  have k3 : (w3.setCell c (.bool (h || satH a || satH b || satH d))).cell? c = some (.bool (h || satH a || satH b || satH d)) := World.cell?_setCell_same _ _ _ k1
  go_wp2_with fail
  refine (HR.out _ k3 (by simp [k2])).mono ?_; rintro e w4 ⟨rfl, hu4⟩
  go_wp2_with fail
  go_ret
  refine ⟨rfl, ?_⟩
  exact HW.out.trans (Upd.after hb3 ((Upd.set c _ w3).trans hu4))
theorem mdiv_any (c : Addr) (h : Bool) (a b d : Int) (w : World) (hc : w.cell? c = some (.bool h)) (hf : w.frozen? c = false) :
    Calls Try.prog 10 #[.pointer (some c), .int .i64 a, .int .i64 b, .int .i64 d] w fun e w' => e = .returned (.int .i64 (mdivV a b d)) ∧ Upd c (h || mdivH a b d) w w' := by
  have ha := satV_bd a
  have hb := satV_bd b
  have hd := satV_bd d
  have hp := prod_bd a b
  have e2 : (h || mdivH a b d) = ((h || satH a || satH b || satH d) || byH (satV a * satV b) (satV d)) := by simp [mdivH, Bool.or_assoc]
  rw [e2]
  exact mdiv_walk c h a b d _ _ _ _ _ _ w hc hf rfl rfl rfl (fun w => mul_any _ _ _ w (by omega) (by omega) (by omega) (by omega) rfl (by omega) (by omega))
      (fun w k1 k2 => by_any c _ _ _ w k1 k2 (by omega) (by omega) (by omega) (by omega))
end Go.Proofs.Ytglpbcionohipaa
