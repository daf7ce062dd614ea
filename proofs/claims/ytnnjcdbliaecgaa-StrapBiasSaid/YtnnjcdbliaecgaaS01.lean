/- Contracts and plain laws beyond the other parts: they hold for all arguments. -/
import Derived.Test.YtnnjcdbliaecgaaQ01
import Derived.Test.YtnnjcdbliaecgaaQ02
import Derived.Test.YtnnjcdbliaecgaaQ03
import Derived.Test.YtnnjcdbliaecgaaQ04
import Derived.Test.YtnnjcdbliaecgaaQ05
import Derived.Test.YtnnjcdbliaecgaaQ06
import Derived.Test.YtnnjcdbliaecgaaQ07
import Derived.Test.YtnnjcdbliaecgaaQ08
import Derived.Test.YtnnjcdbliaecgaaQ09
import Derived.Test.YtnnjcdbliaecgaaQ10
import Derived.Test.YtnnjcdbliaecgaaQ11
import Derived.Test.YtnnjcdbliaecgaaQ12
import Derived.Test.YtnnjcdbliaecgaaQ13
import Derived.Test.YtnnjcdbliaecgaaQ14
import Derived.Test.YtnnjcdbliaecgaaQ15
import Derived.Test.YtnnjcdbliaecgaaQ16
import Derived.Test.YtnnjcdbliaecgaaQ17
import Derived.Test.YtnnjcdbliaecgaaQ18
namespace Go.Proofs.Ytnnjcdbliaecgaa
open Go.RowKit
theorem Flg.ne {w : World} {b b' : Nat} {h : Bool} {T n : Nat} {f' : Nat → Int} (f : Flg w b h) (k : Blk w b' T n f') : b' ≠ b := k.flag f.cell
open Go in
/-- .. that is not wanted. -/
theorem wpList_skip {P : Program} {ops : Array Oper} {Q : Exit → Act → World → Prop} {a : Act} {w : World} {rest : List Oper} {o : Oper}
    (hw : Region.wanted o (yielded ops a.tmps) = false) (h : wpList P ops Q rest (a.put o.dst undef) w) : wpList P ops Q (o :: rest) a w :=
  wpList_step fun K hK => by
    rw [if_neg (by rw [hw]; decide)]
    exact hK _ _ h
end Go.Proofs.Ytnnjcdbliaecgaa
namespace Go.Proofs.Ytnnjcdbliaecgaa
theorem orB_noB {p : Nat → Bool} : ∀ {n : Nat}, (∀ i, i < n → p i = false) → orB p n = false
  | 0, _ => rfl
  | n + 1, h => by simp only [orB]; rw [orB_noB fun i hi => h i (by omega), h n (by omega)]; rfl
theorem clm_fix {K : Nat → Int} (h : ∀ i, i < 24 → -(boxF i) ≤ K i ∧ K i ≤ boxF i) : (∀ i, i < 24 → clmF K i = K i) ∧ clmH K = false := by
  refine ⟨fun i hi => ?_, orB_noB fun i hi => (clampV_id (h (4 + i) (by omega))).2⟩
  unfold clmF; split
  · rfl
  · exact (clampV_id (h i hi)).1
/-- What is good is kept as it is. -/
theorem keep_fix {K : Nat → Int} (h : goodB K = true) : (∀ i, i < 24 → keepF K i = K i) ∧ keepH K = false := by
  obtain ⟨h1, h2⟩ := good_parts h
  have e : keepI K = K := by unfold keepI; rw [if_pos h2]
  obtain ⟨c1, c2⟩ := clm_fix h1
  unfold keepF keepH
  rw [if_pos h2, e]
  exact ⟨c1, by rw [c2]; rfl⟩
end Go.Proofs.Ytnnjcdbliaecgaa
