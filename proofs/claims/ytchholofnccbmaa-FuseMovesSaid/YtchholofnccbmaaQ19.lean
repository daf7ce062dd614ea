/- Contracts of the program's functions and plain laws, part 19: they hold for all arguments. -/
import Derived.Test.YtchholofnccbmaaQ16
import Derived.Test.YtchholofnccbmaaQ09
import Derived.Test.YtchholofnccbmaaQ18
import Derived.Test.YtchholofnccbmaaQ04
import Derived.OpenShut
import Derived.ProofKit
import Derived.Carry
/- Plain laws of Keep and Add, without the walks of law 15. -/
namespace Go.Proofs.Ytchholofnccbmaa
theorem sum4_congr {A B : Nat → Int} (h : ∀ i, i < 4 → A i = B i) : sum4 A = sum4 B := by
  unfold sum4; rw [h 0 (by decide), h 1 (by decide), h 2 (by decide), h 3 (by decide)]
theorem unitQ_congr {A B : Nat → Int} (h : ∀ i, i < 4 → A i = B i) (u : UnitQ A) : UnitQ B := by
  refine ⟨fun i hi => by rw [← h i hi]; exact u.1 i hi, ?_, ?_⟩
  · rw [← h 0 (by decide), ← h 1 (by decide), ← h 2 (by decide), ← h 3 (by decide)]; exact u.2.1
  · rw [← h 0 (by decide), ← h 1 (by decide), ← h 2 (by decide), ← h 3 (by decide)]; exact u.2.2
theorem clmF_lo (X : Nat → Int) {i : Nat} (h : i < 4) : clmF X i = X i := by unfold clmF; rw [if_pos h]
theorem clampV_box (x M : Int) (hM : 0 ≤ M) : -M ≤ clampV x (-M) M ∧ clampV x (-M) M ≤ M := by
  unfold clampV; rw [if_neg (by omega)]; split
  · omega
  · split <;> omega
theorem boxF_lo {i : Nat} (h : i < 4) : boxF i = 1073741840 := by unfold boxF; rw [if_pos h]
/-- What is clamped, of a Unit's quaternion, is good. -/
theorem clm_good (X : Nat → Int) (u : UnitQ X) : goodB (clmF X) = true := by
  unfold goodB
  rw [Bool.and_eq_true]
  refine ⟨boxQ_iff.2 fun i hi => ?_, (unitB_iff _).2 (unitQ_congr (fun i hi => (clmF_lo X hi).symm) u)⟩
  by_cases h : i < 4
  · rw [clmF_lo X h, boxF_lo h]; exact u.1 i h
  · unfold clmF; rw [if_neg h]; exact clampV_box _ _ (by have := boxF_bd i; omega)
theorem turnd_unit (S Q : Nat → Int) (u : UnitQ Q) : UnitQ (turnd S Q) := unitQ_congr (fun i hi => by unfold turnd; rw [if_pos hi]) u
theorem keep_good (S : Nat → Int) : goodB (keepF S) = true := by
  refine clm_good _ ?_
  unfold keepI
  split
  · rename_i h; exact (unitB_iff S).1 h
  · exact turnd_unit _ _ (unit_good S)
theorem add_good (S D : Nat → Int) : goodB (add1F S D) = true := clm_good _ (turnd_unit _ _ (unit_good _))
theorem good_parts {K : Nat → Int} (h : goodB K = true) : (∀ i, i < 24 → -(boxF i) ≤ K i ∧ K i ≤ boxF i) ∧ unitB K = true := by
  unfold goodB at h
  rw [Bool.and_eq_true] at h
  exact ⟨boxQ_iff.1 h.1, h.2⟩
theorem clampV_id {x M : Int} (h : -M ≤ x ∧ x ≤ M) : clampV x (-M) M = x ∧ clampH x (-M) M = false := by
  unfold clampV clampH; rw [if_neg (by omega), if_neg (by omega), if_neg (by omega)]; simp; omega
theorem clm_fix {K : Nat → Int} (h : ∀ i, i < 24 → -(boxF i) ≤ K i ∧ K i ≤ boxF i) : (∀ i, i < 24 → clmF K i = K i) ∧ clmH K = false := by
  refine ⟨fun i hi => ?_, orB_no fun i hi => (clampV_id (h (4 + i) (by omega))).2⟩
  unfold clmF; split
  · rfl
  · exact (clampV_id (h i hi)).1
/-- What is good is kept as it is. -/
theorem keep_fix {K : Nat → Int} (h : goodB K = true) : (∀ i, i < 24 → keepF K i = K i) ∧ keepH K = false := by
  obtain ⟨h1, h2⟩ := good_parts h
  have e : keepI K = K := by unfold keepI; rw [if_pos h2]
  obtain ⟨c1, c2⟩ := clm_fix h1
  unfold keepF keepH
  rw [if_pos h2, e]
  exact ⟨c1, by rw [c2]; rfl⟩
theorem addV_0 {a : Int} (h : -9007199254740992 ≤ a ∧ a ≤ 9007199254740992) : addV a 0 = a ∧ addH a 0 = false := by
  have e1 : satV a = a := satV_id (by omega) (by omega)
  have e0 : satV 0 = 0 := by decide
  unfold addV addH
  rw [e1, e0, Int.add_zero]
  refine ⟨e1, ?_⟩
  rw [satH_no (a := a) (by omega) (by omega)]; rfl
/-- Noughts added to what is good. -/
theorem add_zero {K : Nat → Int} (h : goodB K = true) : (∀ i, i < 24 → 4 ≤ i → add1F K (fun _ => 0) i = K i) ∧ add1H K (fun _ => 0) = false := by
  obtain ⟨h1, h2⟩ := good_parts h
  have hb : ∀ i, i < 24 → -9007199254740992 ≤ K i ∧ K i ≤ 9007199254740992 := fun i hi => by have := h1 i hi; have := boxF_bd i; omega
  have hs : ∀ i, i < 24 → sumA K (fun _ => 0) i = K i := fun i hi => (addV_0 (hb i hi)).1
  have hT : ∀ i, i < 24 → 4 ≤ i → turnd (sumA K (fun _ => 0)) (uniV (sumA K (fun _ => 0))) i = K i := fun i hi h4 => by unfold turnd; rw [if_neg (by omega), hs i hi]
  refine ⟨fun i hi h4 => ?_, ?_⟩
  · unfold add1F clmF
    rw [if_neg (by omega), hT i hi h4]
    exact (clampV_id (h1 i hi)).1
  · unfold add1H
    rw [orB_no fun i hi => (addV_0 (hb i hi)).2, unit_calm _ fun i hi => by rw [hs i (by omega)]; have := hb i (by omega); omega]
    simp only [Bool.false_or]
    refine orB_no fun i hi => ?_
    unfold clmP
    rw [hT (4 + i) (by omega) (by omega)]
    exact (clampV_id (h1 (4 + i) (by omega))).2
end Go.Proofs.Ytchholofnccbmaa
/- What fuse.One makes is good; a number that was expected moves nothing. No program. -/
namespace Go.Proofs.Ytchholofnccbmaa
set_option maxRecDepth 100000
theorem condH_cond (p : Nat → Int) : condH (condF p) = false := by
  unfold condH
  rw [orB_no, orB_no]; rfl
  · intro i hi; exact satH_no (condF_U (f := p) hi).1 (condF_U (f := p) hi).2
  · intro i hi; exact (varV_id condF_D.1 condF_D.2).2
theorem fos_pos (P O : Nat → Int) : 1 ≤ foS P O := by
  have h := (upd_learns (condF P) O (O 25)).2.2
  have := varV_bd (O 25)
  unfold foS; omega
theorem fost_good (S P O : Nat → Int) : goodB (foSt S P O) = true := by
  unfold foSt; split
  · unfold foA addNF addNF; exact add_good _ _
  · exact keep_good S
theorem fopt_good (P O : Nat → Int) : condH (foPt P O) = false := by
  unfold foPt; split
  · exact (upd_learns (condF P) O (O 25)).1
  · exact condH_cond P
theorem fopt_left {P O : Nat → Int} (h : foL P O = false) (hg : condH P = false) : ∀ x, x < 300 → foPt P O x = P x := fun x hx => by
  unfold foPt; rw [if_neg (by rw [h]; decide)]; exact cond_good hg x hx
theorem fost_left {S P O : Nat → Int} (h : foL P O = false) (hg : goodB S = true) : ∀ i, i < 24 → foSt S P O i = S i := fun i hi => by
  unfold foSt; rw [if_neg (by rw [h]; decide)]; exact (keep_fix hg).1 i hi
theorem fopt_less {P O : Nat → Int} (hg : condH P = false) : ∀ i, i < 24 → foPt P O (276 + i) ≤ P (276 + i) := fun i hi => by
  unfold foPt; split
  · have := (upd_learns (condF P) O (O 25)).2.1 i hi
    rw [cond_good (condH_cond P) (276 + i) (by omega), cond_good hg (276 + i) (by omega)] at this
    exact this
  · rw [cond_good hg (276 + i) (by omega)]; exact Int.le_refl _
theorem mulV_zero (x : Int) : mulV x 0 30 = 0 := by
  unfold mulV
  rw [show satV 0 = 0 from by decide, Int.mul_zero]
  decide
theorem fo_zero {P h : Nat → Int} {r g : Int} (h1 : 1 ≤ g) (h2 : g ≤ 1000) : foL P (obF h 0 r g) = true ∧ foY (obF h 0 r g) = 0 ∧ (∀ i, i < 24 → foG P (obF h 0 r g) i = 0) := by
  have y : foY (obF h 0 r g) = 0 := by unfold foY; rw [(obF_y h 0 r g).1]; decide
  refine ⟨?_, y, fun i hi => ?_⟩
  · unfold foL; rw [y, (obF_y h 0 r g).2.2]; exact lik_zero h1 h2 (fos_pos _ _)
  · unfold foG gnF; rw [y, if_pos hi]; exact mulV_zero _
theorem fost_zero {S P h : Nat → Int} {r g : Int} (h1 : 1 ≤ g) (h2 : g ≤ 1000) : ∀ i, i < 24 → 4 ≤ i → foSt S P (obF h 0 r g) i = keepF S i := fun i hi h4 => by
  obtain ⟨l, _, z⟩ := fo_zero (P := P) (h := h) (r := r) h1 h2
  unfold foSt foA; rw [if_pos l]
  have e := (addN1_c (S := keepF S) (T := keepF S) (fun _ _ => rfl) (E := fun _ => 0) z).1 i hi
  rw [e]
  exact (add_zero (keep_good S)).1 i hi h4
end Go.Proofs.Ytchholofnccbmaa
/- Behind 'x, y, z := fuse.One(..)': the three blocks its answer goes to; an observation built of its parts. -/
namespace Go.Proofs.Ytchholofnccbmaa
open Go.RowKit
set_option maxRecDepth 100000
theorem one_made {w8 w9 : World} (S P : Nat → Int) (t : Bool) (y s : Int) (e : w9 = ((((((((w8.alloc (.cells #[.int .i64 0, .int .i64 0, .int .i64 0, .int .i64 0, .int .i64 0, .int .i64 0, .int .i64 0, .int .i64 0, .int .i64 0, .int .i64 0, .int .i64 0, .int .i64 0, .int .i64 0, .int .i64 0, .int .i64 0, .int .i64 0, .int .i64 0, .int .i64 0, .int .i64 0, .int .i64 0, .int .i64 0, .int .i64 0, .int .i64 0, .int .i64 0] 27)).alloc (.cells Try.zeroCells30 30)).alloc (.cells #[.bool false, .int .i64 0, .int .i64 0] 43)).setRow w8.heap.size (arrv 24 (S))).setRow (w8.heap.size + 1) (arrv 300 (P))).setCell ⟨w8.heap.size + 1 + 1, 0, none⟩ (.bool t)).setCell ⟨w8.heap.size + 1 + 1, 1, none⟩ (.int .i64 y)).setCell ⟨w8.heap.size + 1 + 1, 2, none⟩ (.int .i64 s))) :
    Blk w9 w8.heap.size 27 24 S ∧ Blk w9 (w8.heap.size + 1) 30 300 P ∧ Res w9 (w8.heap.size + 1 + 1) t y s ∧ Below w8.heap.size w8 w9 := by
  subst e
  have R8 := aw_t8 w8
  have R9 := aw_q8 w8 S
  have RA := (aw_r8 w8 S P).set3 t y s
  have B1 : Below w8.heap.size w8 (((w8.alloc (.cells #[.int .i64 0, .int .i64 0, .int .i64 0, .int .i64 0, .int .i64 0, .int .i64 0, .int .i64 0, .int .i64 0, .int .i64 0, .int .i64 0, .int .i64 0, .int .i64 0, .int .i64 0, .int .i64 0, .int .i64 0, .int .i64 0, .int .i64 0, .int .i64 0, .int .i64 0, .int .i64 0, .int .i64 0, .int .i64 0, .int .i64 0, .int .i64 0] 27)).alloc (.cells Try.zeroCells30 30)).alloc (.cells #[.bool false, .int .i64 0, .int .i64 0] 43)) := by (repeat (first | with_reducible exact Below.refl _ _ | with_reducible apply Below.drew | (with_reducible refine below_drewN ?_ _) | (with_reducible refine Below.alloc ?_ (by (try simp) <;> omega) _) | (with_reducible refine Below.setCell ?_ (by (try simp) <;> omega) _)))
  exact ⟨((((R8.setRow S).setRow_other _ (by omega)).other (by simp; omega) _).other (by simp; omega) _).other (by simp; omega) _, (((R9.setRow P).other (by simp) _).other (by simp) _).other (by simp) _, RA, ((((below_row (below_row B1 (Nat.le_refl _) _) (by omega) _).setCell (by simp; omega) _).setCell (by simp; omega) _).setCell (by simp; omega) _)⟩
theorem ob_built2 (h : Nat → Int) (r g : Int) : (((Array.foldl (fun (cs : Array Value) (x : Value × Nat) => cs.setIfInBounds x.snd x.fst) #[.int .i64 0, .int .i64 0, .int .i64 0, .int .i64 0, .int .i64 0, .int .i64 0, .int .i64 0, .int .i64 0, .int .i64 0, .int .i64 0, .int .i64 0, .int .i64 0, .int .i64 0, .int .i64 0, .int .i64 0, .int .i64 0, .int .i64 0, .int .i64 0, .int .i64 0, .int .i64 0, .int .i64 0, .int .i64 0, .int .i64 0, .int .i64 0, .int .i64 0, .int .i64 0, .int .i64 0] (arrv 24 h).zipIdx 0 (arrv 24 h).size).setIfInBounds 25 (.int .i64 r)).setIfInBounds 26 (.int .i64 g)) = arrv 27 (obF h 0 r g) := by kernel_rfl
end Go.Proofs.Ytchholofnccbmaa
/- Arguments that are arrays of int64 (or structs of such): opened as numbers; a slice of int64 too. Of no one program. -/
namespace Go.Proofs.Ytchholofnccbmaa
open Go.RowKit Go.ChangeShapes
def AllInt (cs : List Value) : Prop := ∀ v, v ∈ cs → ∃ z, v = .int .i64 z ∧ (Lit.int .i64 z).wf = true
section
variable {H : Type} {enc : TypeId × Value → H} {P : Program} {w : World} {base : Nat} {spare : Nat → Bool} {held : Bool}
/-- What reads as t is int64 numbers alone. -/
def Ints (enc : TypeId × Value → H) (P : Program) (w : World) (base : Nat) (spare : Nat → Bool) (held : Bool) (t : TypeId) : Prop :=
  ∀ fuel cs x, DataW.trod enc P w base spare held fuel t cs = some x → AllInt cs ∧ x.2 = []
theorem ints_int {t : TypeId} (hu : P.underlying t = some (.int .i64)) : Ints enc P w base spare held t := by
  intro fuel cs x h
  obtain ⟨n, h1, h2, h3⟩ := DataW.trod_int hu h
  subst h1
  refine ⟨fun v hv => ?_, ?_⟩
  · rw [List.mem_singleton] at hv; exact ⟨n, hv, h3⟩
  · rw [h2]
theorem ints_array {t e : TypeId} {n m : Nat} (hu : P.underlying t = some (.array n e)) (hc : P.cellsOf t = n * m) (hm : P.cellsOf e = m) (he : Ints enc P w base spare held e) : Ints enc P w base spare held t := by
  intro fuel cs x h
  obtain ⟨xs, k, rfl, rfl, hl, hx, hi⟩ := DataW.trod_array hu h
  rw [hc] at hl
  rw [hm] at hi
  refine ⟨fun v hv => ?_, ?_⟩
  · obtain ⟨q, hq, rfl⟩ := List.getElem_of_mem hv
    have hm0 : 0 < m := by
      rcases Nat.eq_zero_or_pos m with h0 | h0
      · subst h0; omega
      · exact h0
    have hqm : q / m < n := by rw [Nat.div_lt_iff_lt_mul hm0]; omega
    have hh := hi (q / m) hqm
    rw [List.getElem?_eq_getElem (by omega)] at hh
    refine (he _ _ _ hh).1 _ ?_
    rw [List.mem_iff_getElem?]
    refine ⟨q % m, ?_⟩
    rw [List.getElem?_take_of_lt (Nat.mod_lt _ hm0), List.getElem?_drop, Nat.mul_comm, Nat.div_add_mod]
    exact List.getElem?_eq_getElem hq
  · show xs.flatMap (·.2) = []
    rw [List.flatMap_eq_nil_iff]
    intro y hy
    obtain ⟨q, hq, rfl⟩ := List.getElem_of_mem hy
    have hh := hi q (by omega)
    rw [List.getElem?_eq_getElem hq] at hh
    exact (he _ _ _ hh).2
/-- A struct of two: U's numbers, then D's. -/
theorem ints_struct2 {t : TypeId} {f0 f1 : Field} {a b : Nat} (hu : P.underlying t = some (.struct #[f0, f1])) (hc : P.cellsOf t = a + b) (o0 : f0.offset = 0) (o1 : f1.offset = a) (c0 : P.cellsOf f0.type = a) (c1 : P.cellsOf f1.type = b)
    (h0 : Ints enc P w base spare held f0.type) (h1 : Ints enc P w base spare held f1.type) : Ints enc P w base spare held t := by
  intro fuel cs x h
  obtain ⟨xs, k, rfl, rfl, hl, hx, hi⟩ := DataW.trod_struct hu h
  rw [hc] at hl
  have hx2 : xs.length = 2 := hx
  have g0 := hi 0 f0 rfl
  have g1 := hi 1 f1 rfl
  rw [List.getElem?_eq_getElem (by omega)] at g0 g1
  have r0 := h0 _ _ _ g0
  have r1 := h1 _ _ _ g1
  refine ⟨fun v hv => ?_, ?_⟩
  · obtain ⟨q, hq, rfl⟩ := List.getElem_of_mem hv
    by_cases hqa : q < a
    · refine r0.1 _ ?_
      rw [List.mem_iff_getElem?]
      refine ⟨q, ?_⟩
      rw [c0, o0, List.drop_zero, List.getElem?_take_of_lt hqa]
      exact List.getElem?_eq_getElem hq
    · refine r1.1 _ ?_
      rw [List.mem_iff_getElem?]
      refine ⟨q - a, ?_⟩
      rw [c1, o1, List.getElem?_take_of_lt (by omega), List.getElem?_drop, show a + (q - a) = q by omega]
      exact List.getElem?_eq_getElem hq
  · show xs.flatMap (·.2) = []
    rw [List.flatMap_eq_nil_iff]
    intro y hy
    obtain ⟨q, hq, rfl⟩ := List.getElem_of_mem hy
    obtain rfl | rfl : q = 0 ∨ q = 1 := by omega
    · exact r0.2
    · exact r1.2
/-- A struct whose fields cover its cells. -/
theorem ints_struct {t : TypeId} {fs : Array Field} {n : Nat} (hu : P.underlying t = some (.struct fs)) (hc : P.cellsOf t = n)
    (hcov : ∀ q, q < n → ∃ (j : Nat) (f : Field), fs[j]? = some f ∧ f.offset ≤ q ∧ q < f.offset + P.cellsOf f.type)
    (hI : ∀ (j : Nat) (f : Field), fs[j]? = some f → Ints enc P w base spare held f.type) : Ints enc P w base spare held t := by
  intro fuel cs x h
  obtain ⟨xs, k, rfl, rfl, hl, hx, hi⟩ := DataW.trod_struct hu h
  rw [hc] at hl
  refine ⟨fun v hv => ?_, ?_⟩
  · obtain ⟨q, hq, rfl⟩ := List.getElem_of_mem hv
    obtain ⟨j, f, hj, h1, h2⟩ := hcov q (by omega)
    have hjl : j < xs.length := by rw [hx]; exact (Array.getElem?_eq_some_iff.1 hj).1
    have g := hi j f hj
    rw [List.getElem?_eq_getElem hjl] at g
    refine (hI j f hj _ _ _ g).1 _ ?_
    rw [List.mem_iff_getElem?]
    refine ⟨q - f.offset, ?_⟩
    rw [List.getElem?_take_of_lt (by omega), List.getElem?_drop, show f.offset + (q - f.offset) = q by omega]
    exact List.getElem?_eq_getElem hq
  · show xs.flatMap (·.2) = []
    rw [List.flatMap_eq_nil_iff]
    intro y hy
    obtain ⟨q, hq, rfl⟩ := List.getElem_of_mem hy
    have hq2 : q < fs.size := by rw [← hx]; exact hq
    have g := hi q fs[q] (Array.getElem?_eq_getElem hq2)
    rw [List.getElem?_eq_getElem hq] at g
    exact (hI q _ (Array.getElem?_eq_getElem hq2) _ _ _ g).2
/-- A value of such a type: an aggregate of numbers. -/
theorem open_vec {r : Reach} {b0 n : Nat} {t : TypeId} {v : Value} {d : DataW H} {ps : List MemPlace} (hI : Ints enc P w base spare held t) (hc : P.cellsOf t = n)
    (hu : ∃ u, P.underlying t = some u ∧ (match u with | .struct _ | .array _ _ => true | _ => false) = true) (hval : Value.okWide P w r b0 t v) (hd : DataW.Trod enc P w base spare held t v d ps) :
    ∃ f : Nat → Int, v = .agg (arrv n f) ∧ (∀ i, -9223372036854775808 ≤ f i ∧ f i ≤ 9223372036854775807) ∧ ps = [] := by
  obtain ⟨u, hu1, hu2⟩ := hu
  have hv : ∃ cs, v = .agg cs ∧ cs.size = P.cellsOf t := by
    unfold Value.okWide at hval
    rw [hu1] at hval
    cases u <;> simp at hu2 hval <;> (obtain ⟨cs, h1, h2, _⟩ := hval; exact ⟨cs, h1, h2⟩)
  obtain ⟨cs, rfl, hs⟩ := hv
  rw [hc] at hs
  obtain ⟨fuel, hf⟩ := hd
  obtain ⟨hA, hp⟩ := hI _ _ _ hf
  have hA' : ∀ i, i < n → ∃ z, cs[i]? = some (.int .i64 z) ∧ (Lit.int .i64 z).wf = true := by
    intro i hi
    have hm : cs[i]'(by omega) ∈ (Value.agg cs).cells.toList := by simp [Value.cells]
    obtain ⟨z, hz, hw⟩ := hA _ hm
    exact ⟨z, by rw [Array.getElem?_eq_getElem (by omega), hz], hw⟩
  refine ⟨fun i => if h : i < n then Classical.choose (hA' i h) else 0, ?_, fun i => ?_, hp⟩
  · congr 1
    apply Array.ext_getElem?
    intro i
    by_cases hi : i < n
    · rw [arrv_get hi]
      simp only [dif_pos hi]
      exact (Classical.choose_spec (hA' i hi)).1
    · rw [Array.getElem?_eq_none (by omega), Array.getElem?_eq_none (by rw [arrv_size]; omega)]
  · by_cases hi : i < n
    · simp only [dif_pos hi]
      exact Go.bounds_i64 (Classical.choose_spec (hA' i hi)).2
    · simp only [dif_neg hi]; omega
end
end Go.Proofs.Ytchholofnccbmaa
/- The join of a law: arguments that read before the call read behind it, if nothing that was there has turned. -/
namespace Go.Proofs.Ytchholofnccbmaa
open Go.ChangeShapes Go.WideShapes Go.ChangeAt Go.RowKit
theorem trodAll_stays {H : Type} {enc : TypeId × Value → H} {P : Program} (hl : laidOutB P = true) {W W' : World} (hb : Below W.heap.size W W') {sp : Nat → Bool} : ∀ {ts : List TypeId} {vs : List Value} {ds : List (DataW H)} {p : List MemPlace},
    (ts.all fun t => P.readableRec t && decide (t < P.types.size)) = true → DataW.TrodAll enc P W 0 (fun _ => true) true ts vs ds p → (∀ x ∈ p, x.block < W.heap.size) → (∀ x ∈ p, sp x.block = true) → DataW.TrodAll enc P W' 0 sp true ts vs ds p
  | [], [], [], _, _, h, _, _ => h
  | t :: ts, v :: vs, d :: ds, p, ht, h, hlt, hsp => by
    obtain ⟨q, r, h1, h2, rfl⟩ := h
    rw [List.all_cons, Bool.and_eq_true, Bool.and_eq_true, decide_eq_true_eq] at ht
    exact ⟨q, r, WideElems.Trod_stays hl ht.1.1 ht.1.2 h1 (fun x hx => hb.same (hlt x (List.mem_append_left _ hx))) (fun x hx => hsp x (List.mem_append_left _ hx)),
      trodAll_stays hl hb ht.2 h2 (fun x hx => hlt x (List.mem_append_right _ hx)) (fun x hx => hsp x (List.mem_append_right _ hx)), rfl⟩
  | [], _ :: _, _, _, _, h, _, _ => by cases ‹List (DataW H)› <;> exact h.elim
  | [], [], _ :: _, _, _, h, _, _ => h.elim
  | _ :: _, [], _, _, _, h, _, _ => by cases ‹List (DataW H)› <;> exact h.elim
  | _ :: _, _ :: _, [], _, _, h, _, _ => h.elim
/-- What a law owes behind the call: it answers true, and nothing that was there has turned. -/
theorem law_post {H : Type} {enc : TypeId × Value → H} {P : Program} {f : Func} {s : ChangeSpec} {apart fresh handsOn again : Bool} {W W' : World} {args : Array Value} {ds gs : List (DataW H)} {before : List MemPlace} {tb : TypeId}
    (hW : DataW.Whole enc P f.params.toList s.vars apart W args.toList ds gs before) (hv : s.vars = []) (hfn : s.fn H ds = { results := [.lit (.bool true)], args := ds })
    (hu : P.underlying tb = some .bool) (hr : f.resultTypes = #[tb]) (hl : laidOutB P = true) (hts : (f.params.toList.all fun t => P.readableRec t && decide (t < P.types.size)) = true) (hb : Below W.heap.size W W') :
    s.post enc P f apart fresh handsOn again W args (.bool true) W' := by
  have hlt : ∀ x ∈ before, x.block < W.heap.size := fun x hx => hW.lt x hx
  have hW0 := hW
  obtain ⟨p, q, hA, hV, rfl, hfz, hnd⟩ := hW
  rw [hv] at hV
  obtain ⟨rfl, rfl⟩ := trodVars_none hV
  rw [List.append_nil] at hlt
  have hargs : ∀ sp : Nat → Bool, (∀ x ∈ p, sp x.block = true) → DataW.TrodAll enc P W' 0 sp true f.params.toList args.toList ds p := fun sp hsp => trodAll_stays hl hb hts hA hlt hsp
  have hvars : ∀ sp : Nat → Bool, DataW.TrodVars enc P W' sp s.vars ([] : List (DataW H)) [] := fun sp => by rw [hv]; exact rfl
  have hres : ∀ (b : Nat) (sp : Nat → Bool) (hd : Bool), DataW.TrodAll enc P W' b sp hd f.resultTypes.toList ((Value.bool true).resultList f.resultTypes.size) [.lit (.bool true)] [] := fun b sp hd => by
    rw [hr]; exact trodAll_mk1 (shut_bool hu _)
  have hold : ∀ x ∈ p, (fun b => decide (b < W.heap.size)) x.block = true := fun x hx => by simpa using hlt x hx
  have hfn' : s.fn H (ds ++ []) = { results := [.lit (.bool true)], args := ds } := by rw [List.append_nil]; exact hfn
  refine ⟨ds, [], p ++ [], [], p, [], hW0, ?_, ?_, ?_, World.keptBut_mono (fun x hx => ⟨hx, ?_⟩) (hb.frame (· ∈ p ++ [])), fun _ => ?_⟩
  · rw [hfn']; exact hres _ _ _
  · rw [hfn']; exact hargs _ hold
  · rw [hfn']; exact hvars _
  · rw [List.append_nil] at hx; exact Or.inr (.inl hx)
  · refine ⟨ok_one hr rfl (okWide_bool_mk hu _), _, _, ([] ++ p) ++ [], ⟨[] ++ p, [], trodAll_append (hargs _ (fun _ _ => rfl)) (hres _ _ _), hvars _, rfl, ?_, ?_⟩, ?_⟩
    · intro b off hx
      have hin : MemPlace.cell b off ∈ p := by simpa using hx
      rw [hb.frozen (p := ⟨b, off, none⟩) (hlt _ hin)]
      exact hfz b off (by simpa using hin)
    · intro ha
      simpa using hnd ha
    · intro x hx _
      simpa using hx
/-- A slice of int64 (or of int: the numbers are of the same kind), opened. -/
theorem open_slc {H : Type} {enc : TypeId × Value → H} {P : Program} {w : World} {base : Nat} {spare : Nat → Bool} {held : Bool} {r : Reach} {b0 : Nat} {t e : TypeId} {v : Value} {d : DataW H} {ps : List MemPlace} (ht : P.underlying t = some (.slice e)) (he : P.underlying e = some (.int .i64)) (hc : P.cellsOf e = 1)
    (hval : Value.okWide P w r b0 t v) (hd : DataW.Trod enc P w base spare held t v d ps) :
    ∃ p n cp L, v = .slice p n cp ∧ Slc w p n L ∧ n ≤ 9223372036854775807 ∧ ∀ i, -9223372036854775808 ≤ L i ∧ L i ≤ 9223372036854775807 := by
  obtain ⟨a, n, cp, rfl⟩ := okWide_slice ht hval
  obtain ⟨fuel, hf⟩ := hd
  rcases open_ints ht he hc hf with ⟨h0, _⟩ | ⟨ad, len, cap, zs, h0, _, hlc, hcm, hlen, _, hcell, hwf⟩
  · simp [Value.cells] at h0
    obtain ⟨rfl, rfl, rfl⟩ := h0
    exact ⟨none, 0, 0, fun _ => 0, rfl, fun i hi => by omega, by omega, fun _ => ⟨by show (-9223372036854775808 : Int) ≤ 0; omega, by show (0 : Int) ≤ 9223372036854775807; omega⟩⟩
  · simp [Value.cells] at h0
    obtain ⟨rfl, rfl, rfl⟩ := h0
    have hz : n ≤ zs.length := by rw [hlen]; split <;> omega
    refine ⟨some ad, n, cp, fun i => zs.getD i 0, rfl, fun i hi => ?_, by unfold maxLen at hcm; omega, fun i => ?_⟩
    · obtain ⟨b, off, rfl, hb⟩ := ints_at hcell (by omega)
      exact ⟨b, off, rfl, hb i (by omega)⟩
    · by_cases hi : i < zs.length
      · have := Go.bounds_i64 (hwf _ (List.getElem_mem hi))
        simpa [hi] using this
      · simp [List.getElem?_eq_none (by omega : zs.length ≤ i)]
section
variable {H : Type} {enc : TypeId × Value → H} {w : World} {base : Nat} {spare : Nat → Bool} {held : Bool}
theorem cells_of_size {P : Program} {t : TypeId} {n : Nat} (h : (P.info? t).map (·.size) = some n) : P.cellsOf t = n := by
  unfold Program.cellsOf
  cases e : P.info? t with
  | none => rw [e] at h; cases h
  | some i => rw [e] at h; simpa using h
theorem cells_i64 : Try.prog.cellsOf 2 = 1 := cells_of_size (by kernel_rfl)
theorem cells_col : Try.prog.cellsOf 26 = 24 := cells_of_size (by kernel_rfl)
theorem cells_int : Try.prog.cellsOf 3 = 1 := cells_of_size (by kernel_rfl)
theorem cells_row : Try.prog.cellsOf 40 = 24 := cells_of_size (by kernel_rfl)
theorem cells_u : Try.prog.cellsOf 28 = 276 := cells_of_size (by kernel_rfl)
theorem cells_cov : Try.prog.cellsOf 30 = 300 := cells_of_size (by kernel_rfl)
theorem ints_i64 : Ints enc Try.prog w base spare held 2 := ints_int Try.underlying2
theorem ints_col : Ints enc Try.prog w base spare held 26 := ints_array (n := 24) (m := 1) Try.underlying26 cells_col cells_i64 ints_i64
theorem ints_row : Ints enc Try.prog w base spare held 40 := ints_array (n := 24) (m := 1) Try.underlying40 cells_row cells_i64 ints_i64
theorem ints_u : Ints enc Try.prog w base spare held 28 := ints_array (n := 276) (m := 1) Try.underlying28 cells_u cells_i64 ints_i64
theorem ints_cov : Ints enc Try.prog w base spare held 30 := ints_struct2 (a := 276) (b := 24) Try.underlying30 cells_cov rfl rfl cells_u cells_col ints_u ints_col
theorem cells_st : Try.prog.cellsOf 27 = 24 := cells_of_size (by kernel_rfl)
theorem ints_st : Ints enc Try.prog w base spare held 27 := ints_array (n := 24) (m := 1) Try.underlying27 cells_st cells_i64 ints_i64
theorem cells_obs : Try.prog.cellsOf 47 = 27 := cells_of_size (by kernel_rfl)
theorem ints_int' : Ints enc Try.prog w base spare held 3 := ints_int Try.underlying3
set_option maxRecDepth 100000 in
theorem ints_obs : Ints enc Try.prog w base spare held 47 := by
  refine ints_struct (n := 27) Try.underlying47 cells_obs (fun q hq => ?_) (fun j f hj => ?_)
  · by_cases h0 : q < 24
    · exact ⟨0, _, rfl, Nat.zero_le _, by show q < 0 + Try.prog.cellsOf 40; rw [cells_row]; omega⟩
    · obtain rfl | rfl | rfl : q = 24 ∨ q = 25 ∨ q = 26 := by omega
      · exact ⟨1, _, rfl, Nat.le_refl _, by show 24 < 24 + Try.prog.cellsOf 2; rw [cells_i64]; omega⟩
      · exact ⟨2, _, rfl, Nat.le_refl _, by show 25 < 25 + Try.prog.cellsOf 2; rw [cells_i64]; omega⟩
      · exact ⟨3, _, rfl, Nat.le_refl _, by show 26 < 26 + Try.prog.cellsOf 3; rw [cells_int]; omega⟩
  · match j, hj with
    | 0, hj => cases hj; exact ints_row
    | 1, hj => cases hj; exact ints_i64
    | 2, hj => cases hj; exact ints_i64
    | 3, hj => cases hj; exact ints_int'
    | n + 4, hj => rw [Array.getElem?_eq_none (by show 4 ≤ n + 4; omega)] at hj; cases hj
theorem own_knob : ownKnob Try.prog.godebug = none := by kernel_rfl
theorem laid_out : laidOutB Try.prog = true := by kernel_rfl
end
end Go.Proofs.Ytchholofnccbmaa
