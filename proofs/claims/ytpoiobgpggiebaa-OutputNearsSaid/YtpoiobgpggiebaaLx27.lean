/- What the walks of OutputTimes, OutputShifts, OutputCalm share. -/
import Derived.Test.YtpoiobgpggiebaaS01
namespace Go.Proofs.Ytpoiobgpggiebaa
open Go.RowKit
open Go
set_option maxRecDepth 100000
section
variable {z g : Int} {S : Nat → Int} {n pb m : Nat} {L : Nat → Nat → Int} {v : Value} {w w1 w2 w3 : World}
theorem FilR.down (f : FilR z g S n pb m L v w1 w2) (k : Below w2.heap.size w2 w3) : FilR z g S n pb m L v w1 w3 :=
  ⟨f.below.trans (k.mono f.below.size), f.pd.below k, f.lp, f.lv, f.ok, f.non⟩
/-- A flag beside what filled made, and All told. -/
theorem fi_of_all (f : FilR z g S n pb m L v w1 w2) (b : Below w.heap.size w w1) (E : List Lx) (hE : ∀ e, e ∈ E → Blk w1 e.b e.T e.n e.F ∧ w.heap.size ≤ e.b) (k : Below w2.heap.size w2 w3) {v2 : Value} (o : OwnO w3 v2 (m + 1) L) {gb : Nat} (hv : v2.ownBlock = some gb) (hg : w2.heap.size ≤ gb) :
    ∃ cp, v2 = .slice (some ⟨gb, 0, none⟩) (m + 1) cp ∧ m + 1 ≤ cp ∧ FiR w3.heap.size false pb z g v (m + 1) L E [⟨gb, m + 1, L⟩] w (w3.alloc (.cells #[.bool false] 29)) := by
  have q := fi_of_fil (f.down k) b E hE
  rcases o.form with ⟨h0, _⟩ | ⟨gb', cp, rfl, hl2, hc, hL⟩
  · omega
  · simp [Value.ownBlock] at hv
    subst hv
    have hp := f.pd.lt
    have hz := b.size
    have hf := f.below.size
    have ba : Below w3.heap.size w3 (w3.alloc (.cells #[.bool false] 29)) := (Below.refl _ _).alloc (Nat.le_refl _) _
    refine ⟨cp, rfl, hc, q.below, q.fc, q.ff, q.pd, q.ne, q.nv, q.lb, q.lp, q.lv, q.ex, fun e he => ?_⟩
    obtain rfl : e = ⟨gb', m + 1, L⟩ := by simpa using he
    refine ⟨⟨by simp; omega, fun i hi j hj => (ba.cell (p := ⟨gb', i * 11 + j, none⟩) hl2).trans (hL i hi j hj)⟩, by simp only; omega, by simp only; omega, by simp only; omega, fun hv => by have := f.pd.own.lt hv; simp only at this; omega⟩
end
theorem lastK_rise {z : Int} {m : Nat} {L : Nat → Nat → Int} (ok : OutsOk z (m + 1) L) {t : Int} (h : t < L 0 0) : lastK L t (m + 1) = -1 := by
  refine lastK_none fun i hi => ?_
  by_cases e : i = 0
  · subst e; exact h
  · have := ok.rise 0 i (by omega) hi; omega
theorem lastK_pos {L : Nat → Nat → Int} {t : Int} (h : L 0 0 ≤ t) : ∀ n, 0 ≤ lastK L t (n + 1)
  | 0 => by simp [lastK, h]
  | n + 1 => by
    show 0 ≤ (if L (n + 1) 0 ≤ t then ((n + 1 : Nat) : Int) else lastK L t (n + 1))
    split
    · omega
    · exact lastK_pos h n
/-- The loop's own count of it. -/
def nK (L : Nat → Nat → Int) (t : Int) (k : Nat) : Int := if lastK L t k < 0 then 0 else lastK L t k
theorem nK_yes {L : Nat → Nat → Int} {t : Int} {k : Nat} (h : L k 0 ≤ t) : nK L t (k + 1) = (k : Int) := by
  unfold nK
  rw [show lastK L t (k + 1) = (k : Int) from if_pos h, if_neg (by omega)]
theorem nK_no {L : Nat → Nat → Int} {t : Int} {k : Nat} (h : ¬ L k 0 ≤ t) : nK L t (k + 1) = nK L t k := by
  unfold nK
  rw [show lastK L t (k + 1) = lastK L t k from if_neg h]
end Go.Proofs.Ytpoiobgpggiebaa
