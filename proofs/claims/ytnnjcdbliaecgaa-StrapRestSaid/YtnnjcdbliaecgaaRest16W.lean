/- The walk of StrapRest. -/
import Derived.Test.YtnnjcdbliaecgaaFalls16W
import Derived.Test.YtnnjcdbliaecgaaRo5
import Derived.Test.YtnnjcdbliaecgaaFyP
namespace Go.Proofs.Ytnnjcdbliaecgaa
open Go.RowKit
set_option maxRecDepth 100000
set_option maxHeartbeats 4000000 in
theorem rest16_no (hd us n : Int) (X : Nat → Int) (w : World) (h : us < 1000 ∨ 100000 < us ∨ n < 0 ∨ 50 < n) :
    Calls Try.prog 7 #[.int .i64 hd, .agg (arrv 3 X), .int .i64 us, .int .i64 n] w fun e w' => e = .returned (.bool true) ∧ Below w.heap.size w w' := by
  have cs : decide (us < 1000) = true ∨ (decide (us < 1000) = false ∧ decide (100000 < us) = true) ∨ (decide (us < 1000) = false ∧ decide (100000 < us) = false ∧ decide (n < 0) = true) ∨ (decide (us < 1000) = false ∧ decide (100000 < us) = false ∧ decide (n < 0) = false ∧ decide (50 < n) = true) := by
    by_cases h1 : us < 1000
    · exact .inl (by simpa using h1)
    · by_cases h2 : 100000 < us
      · exact .inr (.inl ⟨by simpa using h1, by simpa using h2⟩)
      · by_cases h3 : n < 0
        · exact .inr (.inr (.inl ⟨by simpa using h1, by simpa using h2, by simpa using h3⟩))
        · exact .inr (.inr (.inr ⟨by simpa using h1, by simpa using h2, by simpa using h3, by simp; omega⟩))
  clear h
  have B0 := Lib.hid (show Below w.heap.size w (w.alloc (.cells (arrv 3 X) 40)) by (repeat (first | with_reducible exact Below.refl _ _ | with_reducible apply Below.drew | (with_reducible refine below_drewN ?_ _) | (with_reducible refine Below.alloc ?_ (by (try simp) <;> omega) _) | (with_reducible refine Below.setCell ?_ (by (try simp) <;> omega) _))))
  go_enter Try.func7, Try.ntmps7
  go_upto_region 3 with (go_at_call 8; (refine (awake16_any _).mono ?_); rintro e w1 ⟨rfl, hb1⟩)
  have B1 := Lib.hid (Below.after B0.out hb1)
  clear hb1 B0
  rcases cs with d1 | ⟨d1, d2⟩ | ⟨d1, d2, d3⟩ | ⟨d1, d2, d3, d4⟩
  all_goals
    go_wp2_with fail
    go_ret
    exact ⟨rfl, B1.out⟩
open Go in
/-- The last operation that changes the world (a store), by its run: the walk's goal is never looked into. -/
theorem wpAnyM_doneL {P : Program} {ops : Array Oper} {Q : Exit → Act → World → Prop} {md : Region.Mode} {L : Nat} {S : World → Prop} (i : Nat) {o : Oper} {fuel : Nat} {listed : Array Bool} {a : Act} {w w' : World} (ho : ops.toList[i]? = some o) (hr : Region.ready md ops listed = [i])
    (hw : Region.wanted o (yielded ops a.tmps) = true) (hl : (listed.setIfInBounds i true).getD L false = true) (hy : (execOp a.eval o).run P w = .ok .skip w') (h : wpAnyM P md ops Q S L fuel (listed.setIfInBounds i true) (a.put o.dst undef) w') :
    wpAnyM P md ops Q S L (fuel + 1) listed a w :=
  wpAnyM_one i ho hr fun K hK => by
    rw [if_pos hw]
    exact wp_of_run hy (hK.out _ _ (.inl hl) fun _ => h)
/-- The flag (never set), the velocities asked, the estimate. -/
structure ReR (bc sb : Nat) (X S : Nat → Int) (w wr : World) : Prop where
  below : Below w.heap.size w wr
  fl : Flg wr bc false
  v : Blk wr w.heap.size 40 3 X
  s : Blk wr sb 27 24 S
  lt : w.heap.size < bc ∧ bc < sb
theorem ReR.down {bc sb : Nat} {X S : Nat → Int} {w wr w' : World} (s : ReR bc sb X S w wr) (k : Below wr.heap.size wr w') : ReR bc sb X S w w' := ⟨s.below.trans (k.mono s.below.size), s.fl.below k, s.v.below k, s.s.below k, s.lt⟩
theorem ReR.upd' {bc sb : Nat} {X S : Nat → Int} {w wr w' : World} (s : ReR bc sb X S w wr) (u : Upd ⟨bc, 0, none⟩ false wr w') : ReR bc sb X S w w' := by
  have := s.lt
  exact ⟨below_of_upd s.below u (by simp only; omega), s.fl.hit u, s.v.upd u (by simp only; omega), s.s.upd u (by simp only; omega), s.lt⟩
theorem ReR.row {bc sb : Nat} {X S : Nat → Int} {w wr : World} (s : ReR bc sb X S w wr) (F : Nat → Int) : ReR bc sb X F w (wr.setRow sb (arrv 24 F)) := by
  have := s.lt
  exact ⟨below_row s.below (by omega) _, s.fl.row _ (by omega), s.v.setRow_other _ (by omega), s.s.setRow F, s.lt⟩
open Go in
theorem run_build_st0 {o : Oper} {ev : Operand → Value} {w : World} (ho : o.op = .build 27 #[]) : (execOp ev o).run Try.prog w = .ok (.value (.agg (arrv 24 (fun _ => 0)))) w := by
  unfold execOp
  simp only [ho, List.map_toArray, List.map_nil]
  kernel_rfl
/-- The estimate with an attitude and the first k velocities. -/
def resS (Q X : Nat → Int) (k : Nat) : Nat → Int := fun i => if i < 4 then Q i else if i < 4 + k then X (i - 4) else 0
theorem resS_0 (Q : Nat → Int) (X : Nat → Int) : ∀ i, withF (fun _ => 0) 0 4 Q i = resS Q X 0 i := fun i => by
  unfold withF resS
  by_cases h : i < 4
  · rw [if_pos (by omega), if_pos h, show ((i : Int) - 0).toNat = i by omega]
  · rw [if_neg (by omega), if_neg h, if_neg (by omega)]
theorem resS_next (Q X : Nat → Int) (k : Nat) : ∀ i, withF (resS Q X k) (4 + (k : Int)) 1 (fun _ => X k) i = resS Q X (k + 1) i := fun i => by
  unfold withF resS
  by_cases h : i = 4 + k
  · subst h
    rw [if_pos (by omega), if_neg (by omega), if_pos (by omega), show 4 + k - 4 = k by omega]
  · rw [if_neg (by omega)]
    by_cases h1 : i < 4
    · rw [if_pos h1, if_pos h1]
    · rw [if_neg h1, if_neg h1]
      by_cases h2 : i < 4 + k
      · rw [if_pos h2, if_pos (by omega)]
      · rw [if_neg h2, if_neg (by omega)]
/-- The beginning is the plain law's. -/
theorem resS_start {hd us : Int} {X : Nat → Int} (hX : ∀ j, j < 3 → -274877906944 ≤ X j ∧ X j ≤ 274877906944) : RsI (mulV (secV us) 536870912 30) X 0 (resS (fyV hd) X 3) := by
  have f := fy_calm hd
  have a4 : ∀ j, j < 3 → resS (fyV hd) X 3 (4 + j) = X j := fun j hj => by unfold resS; rw [if_neg (by omega), if_pos (by omega), show 4 + j - 4 = j by omega]
  have a7 : ∀ i, 7 ≤ i → resS (fyV hd) X 3 i = 0 := fun i hi => by unfold resS; rw [if_neg (by omega), if_neg (by omega)]
  have a0 : ∀ i, i < 4 → resS (fyV hd) X 3 i = fyV hd i := fun i hi => by unfold resS; rw [if_pos hi]
  refine ⟨by rw [a0 1 (by decide)]; exact f.2.1, by rw [a0 2 (by decide)]; exact f.2.2.1, rs_good (unitQ_congr (fun i hi => (a0 i hi).symm) f.2.2.2) fun i h4 h24 => ?_, fun i hi => a7 i (by omega), a4 0 (by decide), a4 1 (by decide), ?_, fun j hj => ?_⟩
  · have bx := box_at i
    by_cases c2 : i < 7
    · obtain ⟨k, rfl⟩ : ∃ k, i = 4 + k := ⟨i - 4, by omega⟩
      rw [a4 k (by omega)]; have := hX k (by omega); omega
    · rw [a7 i (by omega)]; omega
  · have := a4 2 (by decide); rw [show 4 + 2 = 6 from rfl] at this; rw [this]; omega
  · rw [a7 (7 + j) (by omega)]; simp
end Go.Proofs.Ytnnjcdbliaecgaa
