/- Contracts and plain laws beyond the other parts, 1: they hold for all arguments. -/
import Derived.Test.YtpoiobgpggiebaaQ01
import Derived.Test.YtpoiobgpggiebaaQ02
import Derived.Test.YtpoiobgpggiebaaQ03
import Derived.Test.YtpoiobgpggiebaaQ04
import Derived.Test.YtpoiobgpggiebaaQ05
import Derived.Test.YtpoiobgpggiebaaQ06
import Derived.Test.YtpoiobgpggiebaaQ07
import Derived.Test.YtpoiobgpggiebaaQ08
import Derived.Test.YtpoiobgpggiebaaQ09
import Derived.Test.YtpoiobgpggiebaaQ10
import Derived.Test.YtpoiobgpggiebaaQ11
import Derived.Test.YtpoiobgpggiebaaQ12
import Derived.Test.YtpoiobgpggiebaaQ13
import Derived.Test.YtpoiobgpggiebaaQ14
import Derived.Test.YtpoiobgpggiebaaQ15
import Derived.Test.YtpoiobgpggiebaaQ16
import Derived.Test.YtpoiobgpggiebaaQ17
import Derived.Test.YtpoiobgpggiebaaQ18
import Derived.Test.YtpoiobgpggiebaaQ19
import Derived.Test.YtpoiobgpggiebaaQ20
import Derived.Test.YtpoiobgpggiebaaQ21
import Derived.Test.YtpoiobgpggiebaaQ22
import Derived.Test.YtpoiobgpggiebaaQ23
namespace Go.Proofs.Ytpoiobgpggiebaa
theorem orB_noB {p : Nat → Bool} : ∀ {n : Nat}, (∀ i, i < n → p i = false) → orB p n = false
  | 0, _ => rfl
  | n + 1, h => by simp only [orB]; rw [orB_noB fun i hi => h i (by omega), h n (by omega)]; rfl
end Go.Proofs.Ytpoiobgpggiebaa
namespace Go.Proofs.Ytpoiobgpggiebaa
open Go.RowKit
open Go
set_option maxRecDepth 100000
theorem run_op_neqOut {o : Oper} {ev : Operand → Value} {w : World} (x y : Operand) (ho : o.op = .binOp .neq 49 x y 49) {f g : Nat → Int} (hx : ev x = .agg (arrv 11 f)) (hy : ev y = .agg (arrv 11 g)) (hfg : arrv 11 f = arrv 11 g) :
    (execOp ev o).run Try.prog w = .ok (.value (.bool false)) w := by
  have e : (Op.equal 49 (.agg (arrv 11 f)) (.agg (arrv 11 f))).run Try.prog w = .ok true w := run_equalIn_out 9997 w f
  have hG : Try.prog.eqGuardType Try.prog.depth 49 = false := by kernel_rfl
  rw [← hfg] at hy
  unfold execOp
  simp only [ho, hx, hy, eqGuard, binOp, Sem.run_bind, Sem.run_pure, Result.andThen_ok]
  simp [hG, e, go_sem]
end Go.Proofs.Ytpoiobgpggiebaa
namespace Go.Proofs.Ytpoiobgpggiebaa
set_option maxRecDepth 100000
/-- What is within the box, with a Unit's quaternion, is kept as it is, without a flag. -/
theorem po_fix (X : Nat → Int) (t : Int) (hu : UnitQ (fun i => X (1 + i))) (hb : ∀ j, 5 ≤ j → j < 11 → -(obx j) ≤ X j ∧ X j ≤ obx j) :
    (∀ j, 1 ≤ j → j < 11 → ofF (poF (fun _ => 0) X) t j = X j) ∧ keepH (poF (fun _ => 0) X) = false := by
  refine ⟨fun j h1 h2 => ?_, ?_⟩
  · by_cases h : j < 5
    · exact po_lo _ X t hu h1 h
    · exact po_in _ X t (by omega) h2 (hb j (by omega) h2)
  · unfold keepH keepI
    rw [if_pos (po_unitB _ X hu), if_pos (po_unitB _ X hu), Bool.false_or]
    refine orB_noB fun i hi => (clampV_id ?_).2
    have hbb := boxF_bd (4 + i)
    rw [poF_get]
    by_cases h : 4 + i < 10
    · rw [if_pos h]
      have := hb (1 + (4 + i)) (by omega) (by omega)
      rw [← boxF_obx (j := 1 + (4 + i)) (by omega) (by omega), show 1 + (4 + i) - 1 = 4 + i by omega] at this
      exact this
    · rw [if_neg h]; omega
theorem sum2H (A : Nat → Int) : (sumB A 2 || satH (sumS A 2)) = (satH (A 0) || satH (A 1) || satH (satV (A 0) + satV (A 1))) := by
  simp [sumS, sumB]
theorem sh_v (D O : Nat → Int) {j : Nat} (h1 : 5 ≤ j) (h2 : j < 8) : shF D O j = addV (O j) (D (4 + (j - 5))) := by
  unfold shF
  rw [putF_no (by omega), putF_at (by omega)]
  unfold vaV shV
  rw [sum2]
  simp only [v2L]
  rw [show 5 + (j - 5) = j by omega]
theorem sh_p (D O : Nat → Int) {j : Nat} (h1 : 8 ≤ j) (h2 : j < 11) : shF D O j = addV (O j) (D (7 + (j - 8))) := by
  unfold shF
  rw [putF_at (by omega)]
  unfold vaV shV
  rw [sum2]
  simp only [v2L]
  rw [show 8 + (j - 8) = j by omega]
theorem sh_lo (D O : Nat → Int) {j : Nat} (h : j < 5) : shF D O j = O j := by
  unfold shF
  rw [putF_no (by omega), putF_no (by omega)]
theorem sb3 {x d B : Int} (hB : 549755813888 ≤ B ∧ B ≤ 9007199254740992) (a : -B ≤ 2 * x ∧ 2 * x ≤ B) (b : -B ≤ 2 * d ∧ 2 * d ≤ B) : SB x ∧ SB d ∧ SB (x + d) ∧ -B ≤ x + d ∧ x + d ≤ B := by
  unfold SB; omega
theorem addV_sb {x d : Int} (h1 : SB x) (h2 : SB d) (h3 : SB (x + d)) : addV x d = x + d ∧ satH x = false ∧ satH d = false ∧ satH (satV x + satV d) = false := by
  refine ⟨by unfold addV; rw [satV_sb h1, satV_sb h2, satV_sb h3], satH_sb h1, satH_sb h2, by rw [satV_sb h1, satV_sb h2]; exact satH_sb h3⟩
theorem sh_hi (D O : Nat → Int) {j : Nat} (h1 : 5 ≤ j) (h2 : j < 11) : shF D O j = addV (O j) (D (j - 1)) := by
  by_cases h : j < 8
  · rw [sh_v _ _ h1 h, show 4 + (j - 5) = j - 1 by omega]
  · rw [sh_p _ _ (by omega) h2, show 7 + (j - 8) = j - 1 by omega]
theorem sh_flag (D O : Nat → Int) (h : ∀ j, 5 ≤ j → j < 11 → satH (O j) = false ∧ satH (D (j - 1)) = false ∧ satH (satV (O j) + satV (D (j - 1))) = false) : shH D O = false := by
  unfold shH
  have h1 : orB (vaH (shV O D 5 4) 2) 3 = false := orB_noB fun i hi => by
    unfold vaH shV
    rw [sum2H]
    simp only [v2L]
    have := h (5 + i) (by omega) (by omega)
    rw [show 5 + i - 1 = 4 + i by omega] at this
    rw [this.1, this.2.1, this.2.2, Bool.or_self, Bool.or_self]
  have h2 : orB (vaH (shV O D 8 7) 2) 3 = false := orB_noB fun i hi => by
    unfold vaH shV
    rw [sum2H]
    simp only [v2L]
    have := h (8 + i) (by omega) (by omega)
    rw [show 8 + i - 1 = 7 + i by omega] at this
    rw [this.1, this.2.1, this.2.2, Bool.or_self, Bool.or_self]
  rw [h1, h2, Bool.or_self]
/-- A jump without a turn shifts an output by just what it tells. -/
theorem shift_eq (D O : Nat → Int) (hu : UnitQ (fun i => O (1 + i))) (hv : ∀ j, 5 ≤ j → j < 11 → -(obx j) ≤ 2 * O j ∧ 2 * O j ≤ obx j) (hd : ∀ j, 5 ≤ j → j < 11 → -(obx j) ≤ 2 * D (j - 1) ∧ 2 * D (j - 1) ≤ obx j) :
    (∀ j, 5 ≤ j → j < 11 → eaF (shF D) O j = O j + D (j - 1) ∧ addV (O j) (D (j - 1)) = O j + D (j - 1)) ∧ (∀ j, j < 5 → eaF (shF D) O j = O j) ∧ eaH (shF D) (shH D) O = false := by
  have hs : ∀ j, 5 ≤ j → j < 11 → SB (O j) ∧ SB (D (j - 1)) ∧ SB (O j + D (j - 1)) ∧ -(obx j) ≤ O j + D (j - 1) ∧ O j + D (j - 1) ≤ obx j := fun j h1 h2 => sb3 (obx_bd j) (hv j h1 h2) (hd j h1 h2)
  have ha : ∀ j, 5 ≤ j → j < 11 → addV (O j) (D (j - 1)) = O j + D (j - 1) ∧ satH (O j) = false ∧ satH (D (j - 1)) = false ∧ satH (satV (O j) + satV (D (j - 1))) = false := fun j h1 h2 => by
    obtain ⟨a, b, c, _⟩ := hs j h1 h2
    exact addV_sb a b c
  have hq : UnitQ (fun i => shF D O (1 + i)) := unitQ_congr (fun i hi => (sh_lo D O (by omega)).symm) hu
  obtain ⟨p1, p2⟩ := po_fix (shF D O) (O 0) hq (fun j h1 h2 => by
    rw [sh_hi D O h1 h2, (ha j h1 h2).1]
    exact (hs j h1 h2).2.2.2)
  refine ⟨fun j h1 h2 => ⟨?_, (ha j h1 h2).1⟩, fun j h => ?_, ?_⟩
  · unfold eaF; rw [p1 j (by omega) h2, sh_hi D O h1 h2]; exact (ha j h1 h2).1
  · by_cases h0 : j = 0
    · subst h0; exact eaF_0 _ _
    · unfold eaF; rw [p1 j (by omega) (by omega)]; exact sh_lo D O h
  · unfold eaH
    rw [p2, Bool.or_false]
    exact sh_flag D O (fun j h1 h2 => (ha j h1 h2).2)
end Go.Proofs.Ytpoiobgpggiebaa
namespace Go.Proofs.Ytpoiobgpggiebaa
open Go.ChangeShapes Go.WideShapes Go.ChangeAt Go.RowKit
section
variable {H : Type} {enc : TypeId × Value → H} {w : World} {base : Nat} {spare : Nat → Bool} {held : Bool}
set_option maxRecDepth 100000 in
theorem cells_v3 : Try.prog.cellsOf 43 = 3 := cells_of_size (by kernel_rfl)
set_option maxRecDepth 100000 in
theorem ints_v3 : Ints enc Try.prog w base spare held 43 := ints_array (n := 3) (m := 1) Try.underlying43 cells_v3 cells_i64 ints_i64
set_option maxRecDepth 100000 in
theorem cells_qt : Try.prog.cellsOf 42 = 4 := cells_of_size (by kernel_rfl)
set_option maxRecDepth 100000 in
theorem ints_qt : Ints enc Try.prog w base spare held 42 := ints_array (n := 4) (m := 1) Try.underlying42 cells_qt cells_i64 ints_i64
end
end Go.Proofs.Ytpoiobgpggiebaa
namespace Go.Proofs.Ytpoiobgpggiebaa
open Go.ChangeShapes Go.WideShapes Go.ChangeAt Go.RowKit
section
variable {H : Type} {enc : TypeId × Value → H} {w : World} {base : Nat} {spare : Nat → Bool} {held : Bool}
set_option maxRecDepth 100000 in
theorem cells_dl : Try.prog.cellsOf 45 = 10 := cells_of_size (by kernel_rfl)
set_option maxRecDepth 100000 in
theorem ints_dl : Ints enc Try.prog w base spare held 45 := by
  refine ints_struct (n := 10) Try.underlying45 cells_dl (fun q hq => ?_) (fun j f hj => ?_)
  · by_cases h0 : q < 4
    · exact ⟨0, _, rfl, Nat.zero_le _, by show q < 0 + Try.prog.cellsOf 42; rw [cells_qt]; omega⟩
    · by_cases h1 : q < 7
      · exact ⟨1, _, rfl, by show 4 ≤ q; omega, by show q < 4 + Try.prog.cellsOf 43; rw [cells_v3]; omega⟩
      · exact ⟨2, _, rfl, by show 7 ≤ q; omega, by show q < 7 + Try.prog.cellsOf 43; rw [cells_v3]; omega⟩
  · match j, hj with
    | 0, hj => cases hj; exact ints_qt
    | 1, hj => cases hj; exact ints_v3
    | 2, hj => cases hj; exact ints_v3
    | n + 3, hj => rw [Array.getElem?_eq_none (by show 3 ≤ n + 3; omega)] at hj; cases hj
end
end Go.Proofs.Ytpoiobgpggiebaa
