/- Rest with known biases; a fall: plain laws. No program. -/
import Derived.Test.YtnnjcdbliaecgaaUpr2
import Derived.Test.YtnnjcdbliaecgaaErr
namespace Go.Proofs.Ytnnjcdbliaecgaa
/-- Seconds of so many microseconds. -/
theorem sec_bd {us : Int} (h : 1000 ≤ us) (h2 : us ≤ 100000) : 1073741 ≤ secV us ∧ secV us ≤ 107374183 ∧ secH us = false := by
  have e := rdiv_err (x := us * 1073741824) (d := 1000000) (by decide)
  have b : 1073741 ≤ rdiv (us * 1073741824) 1000000 ∧ rdiv (us * 1073741824) 1000000 ≤ 107374183 := by
    generalize rdiv (us * 1073741824) 1000000 = q at *
    omega
  have s1 : satV us = us := satV_id (by omega) (by omega)
  have s2 : satH us = false := satH_no (by omega) (by omega)
  have o : satV 1073741824 = 1073741824 ∧ satH 1073741824 = false ∧ satV 1000000 = 1000000 ∧ satH 1000000 = false := by decide
  have s3 : satV (rdiv (us * 1073741824) 1000000) = rdiv (us * 1073741824) 1000000 := satV_id (by omega) (by omega)
  have s4 : satH (rdiv (us * 1073741824) 1000000) = false := satH_no (by omega) (by omega)
  unfold secV secH mdivV mdivH byV byH
  rw [s1, s2, o.1, o.2.1, o.2.2.1, o.2.2.2, if_neg (by decide), s3, s4]
  exact ⟨b.1, b.2, by decide⟩
/-- A product of small numbers. -/
theorem ml_small {a b X Y : Int} (ha : -X ≤ a ∧ a ≤ X) (hb : -Y ≤ b ∧ b ≤ Y) (hX : X ≤ 1073741824000) (hY : Y ≤ 1073741824000) (hXY : X * Y ≤ 1073741824000000000000) :
    mulV a b 30 = rsh (a * b) 30 ∧ mulH a b 30 = false ∧ -(X * Y) - 1073741824 ≤ 1073741824 * mulV a b 30 ∧ 1073741824 * mulV a b 30 ≤ X * Y + 1073741824 := by
  have m := mul_bd ha hb
  have r := rsh_err (a * b)
  have q := mulV_of (a := a) (b := b) (by unfold SB; omega) (by unfold SB; omega) (by unfold SB; omega)
  refine ⟨q.1, q.2, ?_⟩
  rw [q.1]
  omega
theorem ml_zero (b : Int) : mulV 0 b 30 = 0 := by
  unfold mulV
  rw [if_neg (by decide), show satV 0 = 0 by decide, Int.zero_mul]; decide
theorem mlH_zero {b : Int} (h : SB b) : mulH 0 b 30 = false := by
  unfold mulH
  rw [satH_sb h, show satV 0 = 0 by decide, Int.zero_mul]; decide
theorem sub_same {x : Int} (h : SB x) : subV x x = 0 ∧ subH x x = false := by
  unfold subV subH
  rw [satV_sb h, satH_sb h, Int.sub_self]; decide
/-- Gravity's part of a step, half a step. -/
theorem up_g {dt : Int} (h : 0 ≤ dt) (h2 : dt ≤ 107374183) : mulH 10529810258 dt 30 = false ∧ -1 ≤ mulV 10529810258 dt 30 ∧ mulV 10529810258 dt 30 ≤ 1052981035 ∧ mulH dt 536870912 30 = false ∧ -1 ≤ mulV dt 536870912 30 ∧ mulV dt 536870912 30 ≤ 53687093 := by
  have a := ml_small (a := 10529810258) (b := dt) (X := 10529810258) (Y := 107374183) (by decide) (by omega) (by decide) (by decide) (by decide)
  have b := ml_small (a := dt) (b := 536870912) (X := 107374183) (Y := 536870912) (by omega) (by decide) (by decide) (by decide) (by decide)
  have ra := rsh_err (10529810258 * dt)
  have rb := rsh_err (dt * 536870912)
  rw [← a.1] at ra
  rw [← b.1] at rb
  refine ⟨a.2.1, ?_, ?_, b.2.1, ?_, ?_⟩ <;> omega
end Go.Proofs.Ytnnjcdbliaecgaa
