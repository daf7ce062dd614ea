/- Contracts and plain laws beyond the other parts: they hold for all arguments. -/
import Derived.Test.YtnnjcdbliaecgaaQ01
import Derived.Test.YtnnjcdbliaecgaaQ02
import Derived.Test.YtnnjcdbliaecgaaQ03
import Derived.Test.YtnnjcdbliaecgaaQ04
import Derived.Test.YtnnjcdbliaecgaaQ05
import Derived.Test.YtnnjcdbliaecgaaQ06
import Derived.Test.YtnnjcdbliaecgaaQ07
import Derived.Test.YtnnjcdbliaecgaaQ08
import Derived.Test.YtnnjcdbliaecgaaQ09
import Derived.Test.YtnnjcdbliaecgaaQ10
import Derived.Test.YtnnjcdbliaecgaaQ11
import Derived.Test.YtnnjcdbliaecgaaQ12
import Derived.Test.YtnnjcdbliaecgaaQ13
import Derived.Test.YtnnjcdbliaecgaaQ14
import Derived.Test.YtnnjcdbliaecgaaQ15
import Derived.Test.YtnnjcdbliaecgaaQ16
import Derived.Test.YtnnjcdbliaecgaaQ17
import Derived.Test.YtnnjcdbliaecgaaQ18
namespace Go.Proofs.Ytnnjcdbliaecgaa
/-- Of numbers up to 2^59 Unit raises no flag. -/
theorem unit_calm (A : Nat → Int) (hA : ∀ i, i < 4 → -576460752303423488 ≤ A i ∧ A i ≤ 576460752303423488) : uniH A = false := by
  have hs : ∀ i, i < 4 → satH (A i) = false := fun i hi => satH_no (by have := hA i hi; omega) (by have := hA i hi; omega)
  have hv : ∀ i, i < 4 → satA A i = A i := fun i hi => satV_id (by have := hA i hi; omega) (by have := hA i hi; omega)
  unfold uniH
  simp only [orB, hs 0 (by decide), hs 1 (by decide), hs 2 (by decide), hs 3 (by decide), Bool.or_false, Bool.false_or]
  by_cases h : zer4 (satA A) = true
  · rw [if_pos h]
  · rw [if_neg h]
    obtain ⟨_, h4, h5⟩ := uni_both (satA A) (fun i _ => satV_bd _) (zer4_no h)
    rw [h4, h5]
    obtain ⟨R, hR⟩ : ∃ R : Int, ((rootV (dotS (satA A) (satA A) 4).toNat : Nat) : Int) = R := ⟨_, rfl⟩
    obtain ⟨a1, a2, a3, _⟩ := hyp_root (satA A) (fun i _ => satV_bd _) R hR
    rw [hR]
    rw [hv 0 (by decide), hv 1 (by decide), hv 2 (by decide), hv 3 (by decide)] at a2
    have w : ∀ i, i < 4 → A i * A i ≤ 576460752303423488 * 576460752303423488 := fun i hi => sq_le (by decide) (hA i hi).1 (hA i hi).2
    have w0 := w 0 (by decide)
    have w1 := w 1 (by decide)
    have w2 := w 2 (by decide)
    have w3 := w 3 (by decide)
    have : ¬ 1152921504606846976 < R := by
      intro hc
      have h2 : 1152921504606846977 * R ≤ R * R := Int.mul_le_mul_of_nonneg_right (by omega) a1
      omega
    simp; omega
end Go.Proofs.Ytnnjcdbliaecgaa
namespace Go.Proofs.Ytnnjcdbliaecgaa
open Go.RowKit
open Go in
/-- .. that is not wanted. -/
theorem wpList_skip {P : Program} {ops : Array Oper} {Q : Exit → Act → World → Prop} {a : Act} {w : World} {rest : List Oper} {o : Oper}
    (hw : Region.wanted o (yielded ops a.tmps) = false) (h : wpList P ops Q rest (a.put o.dst undef) w) : wpList P ops Q (o :: rest) a w :=
  wpList_step fun K hK => by
    rw [if_neg (by rw [hw]; decide)]
    exact hK _ _ h
end Go.Proofs.Ytnnjcdbliaecgaa
namespace Go.Proofs.Ytnnjcdbliaecgaa
def fyM (a : Int) : Int := mulV (wrpV a) 536870912 30
def fyV (a : Int) : Nat → Int := uniV (q4 (cosV (fyM a)) 0 0 (sinV (fyM a)))
def fyH (a : Int) : Bool := mulH (wrpV a) 536870912 30 || cosH (fyM a) || sinH (fyM a) || uniH (q4 (cosV (fyM a)) 0 0 (sinV (fyM a)))
end Go.Proofs.Ytnnjcdbliaecgaa
namespace Go.Proofs.Ytnnjcdbliaecgaa
open Go.RowKit
set_option maxRecDepth 100000
open Go in
theorem run_build_q4' {o : Oper} {ev : Operand → Value} {w : World} (x u : Operand) (ho : o.op = .build 42 #[(0, x), (3, u)]) {a d : Int} (hx : ev x = .int .i64 a) (hu : ev u = .int .i64 d) :
    (execOp ev o).run Try.prog w = .ok (.value (.agg (arrv 4 (q4 a 0 0 d)))) w := by
  unfold execOp
  simp only [ho, List.map_toArray, List.map_cons, List.map_nil, hx, hu]
  kernel_rfl
end Go.Proofs.Ytnnjcdbliaecgaa
namespace Go.Proofs.Ytnnjcdbliaecgaa
theorem orB_noB {p : Nat → Bool} : ∀ {n : Nat}, (∀ i, i < n → p i = false) → orB p n = false
  | 0, _ => rfl
  | n + 1, h => by simp only [orB]; rw [orB_noB fun i hi => h i (by omega), h n (by omega)]; rfl
theorem clm_fix {K : Nat → Int} (h : ∀ i, i < 24 → -(boxF i) ≤ K i ∧ K i ≤ boxF i) : (∀ i, i < 24 → clmF K i = K i) ∧ clmH K = false := by
  refine ⟨fun i hi => ?_, orB_noB fun i hi => (clampV_id (h (4 + i) (by omega))).2⟩
  unfold clmF; split
  · rfl
  · exact (clampV_id (h i hi)).1
/-- What is good is kept as it is. -/
theorem keep_fix {K : Nat → Int} (h : goodB K = true) : (∀ i, i < 24 → keepF K i = K i) ∧ keepH K = false := by
  obtain ⟨h1, h2⟩ := good_parts h
  have e : keepI K = K := by unfold keepI; rw [if_pos h2]
  obtain ⟨c1, c2⟩ := clm_fix h1
  unfold keepF keepH
  rw [if_pos h2, e]
  exact ⟨c1, by rw [c2]; rfl⟩
end Go.Proofs.Ytnnjcdbliaecgaa
namespace Go.Proofs.Ytnnjcdbliaecgaa
open Go.ChangeShapes Go.WideShapes Go.ChangeAt Go.RowKit
section
variable {H : Type} {enc : TypeId × Value → H} {w : World} {base : Nat} {spare : Nat → Bool} {held : Bool}
set_option maxRecDepth 100000 in
theorem cells_v3 : Try.prog.cellsOf 40 = 3 := cells_of_size (by kernel_rfl)
set_option maxRecDepth 100000 in
theorem ints_v3 : Ints enc Try.prog w base spare held 40 := ints_array (n := 3) (m := 1) Try.underlying40 cells_v3 cells_i64 ints_i64
end
end Go.Proofs.Ytnnjcdbliaecgaa
