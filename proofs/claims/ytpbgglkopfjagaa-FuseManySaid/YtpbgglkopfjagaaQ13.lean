/- Contracts of the program's functions and plain laws, part 13: they hold for all arguments. -/
import Derived.Test.YtpbgglkopfjagaaQ11
import Derived.Test.YtpbgglkopfjagaaQ06
import Derived.Test.YtpbgglkopfjagaaQ12
import Derived.Test.YtpbgglkopfjagaaQ03
import Derived.OpenShut
import Derived.ProofKit
import Derived.Carry
import Derived.Test.YtpbgglkopfjagaaQ02
import Derived.Deep.MidRow
import Derived.Deep.Upon
/- Plain laws of Keep and Add, without the walks of law 15. -/
namespace Go.Proofs.Ytpbgglkopfjagaa
theorem sum4_congr {A B : Nat → Int} (h : ∀ i, i < 4 → A i = B i) : sum4 A = sum4 B := by
  unfold sum4; rw [h 0 (by decide), h 1 (by decide), h 2 (by decide), h 3 (by decide)]
theorem unitQ_congr {A B : Nat → Int} (h : ∀ i, i < 4 → A i = B i) (u : UnitQ A) : UnitQ B := by
  refine ⟨fun i hi => by rw [← h i hi]; exact u.1 i hi, ?_, ?_⟩
  · rw [← h 0 (by decide), ← h 1 (by decide), ← h 2 (by decide), ← h 3 (by decide)]; exact u.2.1
  · rw [← h 0 (by decide), ← h 1 (by decide), ← h 2 (by decide), ← h 3 (by decide)]; exact u.2.2
theorem clmF_lo (X : Nat → Int) {i : Nat} (h : i < 4) : clmF X i = X i := by unfold clmF; rw [if_pos h]
theorem clampV_box (x M : Int) (hM : 0 ≤ M) : -M ≤ clampV x (-M) M ∧ clampV x (-M) M ≤ M := by
  unfold clampV; rw [if_neg (by omega)]; split
  · omega
  · split <;> omega
theorem boxF_lo {i : Nat} (h : i < 4) : boxF i = 1073741840 := by unfold boxF; rw [if_pos h]
/-- What is clamped, of a Unit's quaternion, is good. -/
theorem clm_good (X : Nat → Int) (u : UnitQ X) : goodB (clmF X) = true := by
  unfold goodB
  rw [Bool.and_eq_true]
  refine ⟨boxQ_iff.2 fun i hi => ?_, (unitB_iff _).2 (unitQ_congr (fun i hi => (clmF_lo X hi).symm) u)⟩
  by_cases h : i < 4
  · rw [clmF_lo X h, boxF_lo h]; exact u.1 i h
  · unfold clmF; rw [if_neg h]; exact clampV_box _ _ (by have := boxF_bd i; omega)
theorem turnd_unit (S Q : Nat → Int) (u : UnitQ Q) : UnitQ (turnd S Q) := unitQ_congr (fun i hi => by unfold turnd; rw [if_pos hi]) u
theorem keep_good (S : Nat → Int) : goodB (keepF S) = true := by
  refine clm_good _ ?_
  unfold keepI
  split
  · rename_i h; exact (unitB_iff S).1 h
  · exact turnd_unit _ _ (unit_good S)
theorem add_good (S D : Nat → Int) : goodB (add1F S D) = true := clm_good _ (turnd_unit _ _ (unit_good _))
theorem good_parts {K : Nat → Int} (h : goodB K = true) : (∀ i, i < 24 → -(boxF i) ≤ K i ∧ K i ≤ boxF i) ∧ unitB K = true := by
  unfold goodB at h
  rw [Bool.and_eq_true] at h
  exact ⟨boxQ_iff.1 h.1, h.2⟩
theorem clampV_id {x M : Int} (h : -M ≤ x ∧ x ≤ M) : clampV x (-M) M = x ∧ clampH x (-M) M = false := by
  unfold clampV clampH; rw [if_neg (by omega), if_neg (by omega), if_neg (by omega)]; simp; omega
theorem clm_fix {K : Nat → Int} (h : ∀ i, i < 24 → -(boxF i) ≤ K i ∧ K i ≤ boxF i) : (∀ i, i < 24 → clmF K i = K i) ∧ clmH K = false := by
  refine ⟨fun i hi => ?_, orB_no fun i hi => (clampV_id (h (4 + i) (by omega))).2⟩
  unfold clmF; split
  · rfl
  · exact (clampV_id (h i hi)).1
/-- What is good is kept as it is. -/
theorem keep_fix {K : Nat → Int} (h : goodB K = true) : (∀ i, i < 24 → keepF K i = K i) ∧ keepH K = false := by
  obtain ⟨h1, h2⟩ := good_parts h
  have e : keepI K = K := by unfold keepI; rw [if_pos h2]
  obtain ⟨c1, c2⟩ := clm_fix h1
  unfold keepF keepH
  rw [if_pos h2, e]
  exact ⟨c1, by rw [c2]; rfl⟩
theorem addV_0 {a : Int} (h : -9007199254740992 ≤ a ∧ a ≤ 9007199254740992) : addV a 0 = a ∧ addH a 0 = false := by
  have e1 : satV a = a := satV_id (by omega) (by omega)
  have e0 : satV 0 = 0 := by decide
  unfold addV addH
  rw [e1, e0, Int.add_zero]
  refine ⟨e1, ?_⟩
  rw [satH_no (a := a) (by omega) (by omega)]; rfl
/-- Noughts added to what is good. -/
theorem add_zero {K : Nat → Int} (h : goodB K = true) : (∀ i, i < 24 → 4 ≤ i → add1F K (fun _ => 0) i = K i) ∧ add1H K (fun _ => 0) = false := by
  obtain ⟨h1, h2⟩ := good_parts h
  have hb : ∀ i, i < 24 → -9007199254740992 ≤ K i ∧ K i ≤ 9007199254740992 := fun i hi => by have := h1 i hi; have := boxF_bd i; omega
  have hs : ∀ i, i < 24 → sumA K (fun _ => 0) i = K i := fun i hi => (addV_0 (hb i hi)).1
  have hT : ∀ i, i < 24 → 4 ≤ i → turnd (sumA K (fun _ => 0)) (uniV (sumA K (fun _ => 0))) i = K i := fun i hi h4 => by unfold turnd; rw [if_neg (by omega), hs i hi]
  refine ⟨fun i hi h4 => ?_, ?_⟩
  · unfold add1F clmF
    rw [if_neg (by omega), hT i hi h4]
    exact (clampV_id (h1 i hi)).1
  · unfold add1H
    rw [orB_no fun i hi => (addV_0 (hb i hi)).2, unit_calm _ fun i hi => by rw [hs i (by omega)]; have := hb i (by omega); omega]
    simp only [Bool.false_or]
    refine orB_no fun i hi => ?_
    unfold clmP
    rw [hT (4 + i) (by omega) (by omega)]
    exact (clampV_id (h1 (4 + i) (by omega))).2
end Go.Proofs.Ytpbgglkopfjagaa
/- What fuse.One makes is good; a number that was expected moves nothing. No program. -/
namespace Go.Proofs.Ytpbgglkopfjagaa
set_option maxRecDepth 100000
theorem condH_cond (p : Nat → Int) : condH (condF p) = false := by
  unfold condH
  rw [orB_no, orB_no]; rfl
  · intro i hi; exact satH_no (condF_U (f := p) hi).1 (condF_U (f := p) hi).2
  · intro i hi; exact (varV_id condF_D.1 condF_D.2).2
theorem fos_pos (P O : Nat → Int) : 1 ≤ foS P O := by
  have h := (upd_learns (condF P) O (O 25)).2.2
  have := varV_bd (O 25)
  unfold foS; omega
theorem fost_good (S P O : Nat → Int) : goodB (foSt S P O) = true := by
  unfold foSt; split
  · unfold foA addNF addNF; exact add_good _ _
  · exact keep_good S
theorem fopt_good (P O : Nat → Int) : condH (foPt P O) = false := by
  unfold foPt; split
  · exact (upd_learns (condF P) O (O 25)).1
  · exact condH_cond P
theorem fopt_left {P O : Nat → Int} (h : foL P O = false) (hg : condH P = false) : ∀ x, x < 300 → foPt P O x = P x := fun x hx => by
  unfold foPt; rw [if_neg (by rw [h]; decide)]; exact cond_good hg x hx
theorem fost_left {S P O : Nat → Int} (h : foL P O = false) (hg : goodB S = true) : ∀ i, i < 24 → foSt S P O i = S i := fun i hi => by
  unfold foSt; rw [if_neg (by rw [h]; decide)]; exact (keep_fix hg).1 i hi
theorem fopt_less {P O : Nat → Int} (hg : condH P = false) : ∀ i, i < 24 → foPt P O (276 + i) ≤ P (276 + i) := fun i hi => by
  unfold foPt; split
  · have := (upd_learns (condF P) O (O 25)).2.1 i hi
    rw [cond_good (condH_cond P) (276 + i) (by omega), cond_good hg (276 + i) (by omega)] at this
    exact this
  · rw [cond_good hg (276 + i) (by omega)]; exact Int.le_refl _
theorem mulV_zero (x : Int) : mulV x 0 30 = 0 := by
  unfold mulV
  rw [show satV 0 = 0 from by decide, Int.mul_zero]
  decide
theorem fo_zero {P h : Nat → Int} {r g : Int} (h1 : 1 ≤ g) (h2 : g ≤ 1000) : foL P (obF h 0 r g) = true ∧ foY (obF h 0 r g) = 0 ∧ (∀ i, i < 24 → foG P (obF h 0 r g) i = 0) := by
  have y : foY (obF h 0 r g) = 0 := by unfold foY; rw [(obF_y h 0 r g).1]; decide
  refine ⟨?_, y, fun i hi => ?_⟩
  · unfold foL; rw [y, (obF_y h 0 r g).2.2]; exact lik_zero h1 h2 (fos_pos _ _)
  · unfold foG gnF; rw [y, if_pos hi]; exact mulV_zero _
theorem fost_zero {S P h : Nat → Int} {r g : Int} (h1 : 1 ≤ g) (h2 : g ≤ 1000) : ∀ i, i < 24 → 4 ≤ i → foSt S P (obF h 0 r g) i = keepF S i := fun i hi h4 => by
  obtain ⟨l, _, z⟩ := fo_zero (P := P) (h := h) (r := r) h1 h2
  unfold foSt foA; rw [if_pos l]
  have e := (addN1_c (S := keepF S) (T := keepF S) (fun _ _ => rfl) (E := fun _ => 0) z).1 i hi
  rw [e]
  exact (add_zero (keep_good S)).1 i hi h4
end Go.Proofs.Ytpbgglkopfjagaa
/- Behind 'x, y, z := fuse.One(..)': the three blocks its answer goes to; an observation built of its parts. -/
namespace Go.Proofs.Ytpbgglkopfjagaa
open Go.RowKit
set_option maxRecDepth 100000
theorem one_made {w8 w9 : World} (S P : Nat → Int) (t : Bool) (y s : Int) (e : w9 = ((((((((w8.alloc (.cells #[.int .i64 0, .int .i64 0, .int .i64 0, .int .i64 0, .int .i64 0, .int .i64 0, .int .i64 0, .int .i64 0, .int .i64 0, .int .i64 0, .int .i64 0, .int .i64 0, .int .i64 0, .int .i64 0, .int .i64 0, .int .i64 0, .int .i64 0, .int .i64 0, .int .i64 0, .int .i64 0, .int .i64 0, .int .i64 0, .int .i64 0, .int .i64 0] 23)).alloc (.cells Try.zeroCells26 26)).alloc (.cells #[.bool false, .int .i64 0, .int .i64 0] 36)).setRow w8.heap.size (arrv 24 (S))).setRow (w8.heap.size + 1) (arrv 300 (P))).setCell ⟨w8.heap.size + 1 + 1, 0, none⟩ (.bool t)).setCell ⟨w8.heap.size + 1 + 1, 1, none⟩ (.int .i64 y)).setCell ⟨w8.heap.size + 1 + 1, 2, none⟩ (.int .i64 s))) :
    Blk w9 w8.heap.size 23 24 S ∧ Blk w9 (w8.heap.size + 1) 26 300 P ∧ Res w9 (w8.heap.size + 1 + 1) t y s ∧ Below w8.heap.size w8 w9 := by
  subst e
  have R8 := aw_t8 w8
  have R9 := aw_q8 w8 S
  have RA := (aw_r8 w8 S P).set3 t y s
  have B1 : Below w8.heap.size w8 (((w8.alloc (.cells #[.int .i64 0, .int .i64 0, .int .i64 0, .int .i64 0, .int .i64 0, .int .i64 0, .int .i64 0, .int .i64 0, .int .i64 0, .int .i64 0, .int .i64 0, .int .i64 0, .int .i64 0, .int .i64 0, .int .i64 0, .int .i64 0, .int .i64 0, .int .i64 0, .int .i64 0, .int .i64 0, .int .i64 0, .int .i64 0, .int .i64 0, .int .i64 0] 23)).alloc (.cells Try.zeroCells26 26)).alloc (.cells #[.bool false, .int .i64 0, .int .i64 0] 36)) := by (repeat (first | with_reducible exact Below.refl _ _ | with_reducible apply Below.drew | (with_reducible refine below_drewN ?_ _) | (with_reducible refine Below.alloc ?_ (by (try simp) <;> omega) _) | (with_reducible refine Below.setCell ?_ (by (try simp) <;> omega) _)))
  exact ⟨((((R8.setRow S).setRow_other _ (by omega)).other (by simp; omega) _).other (by simp; omega) _).other (by simp; omega) _, (((R9.setRow P).other (by simp) _).other (by simp) _).other (by simp) _, RA, ((((below_row (below_row B1 (Nat.le_refl _) _) (by omega) _).setCell (by simp; omega) _).setCell (by simp; omega) _).setCell (by simp; omega) _)⟩
theorem ob_built2 (h : Nat → Int) (r g : Int) : (((Array.foldl (fun (cs : Array Value) (x : Value × Nat) => cs.setIfInBounds x.snd x.fst) #[.int .i64 0, .int .i64 0, .int .i64 0, .int .i64 0, .int .i64 0, .int .i64 0, .int .i64 0, .int .i64 0, .int .i64 0, .int .i64 0, .int .i64 0, .int .i64 0, .int .i64 0, .int .i64 0, .int .i64 0, .int .i64 0, .int .i64 0, .int .i64 0, .int .i64 0, .int .i64 0, .int .i64 0, .int .i64 0, .int .i64 0, .int .i64 0, .int .i64 0, .int .i64 0, .int .i64 0] (arrv 24 h).zipIdx 0 (arrv 24 h).size).setIfInBounds 25 (.int .i64 r)).setIfInBounds 26 (.int .i64 g)) = arrv 27 (obF h 0 r g) := by kernel_rfl
end Go.Proofs.Ytpbgglkopfjagaa
/- Arguments that are arrays of int64 (or structs of such): opened as numbers; a slice of int64 too. Of no one program. -/
namespace Go.Proofs.Ytpbgglkopfjagaa
open Go.RowKit Go.ChangeShapes
def AllInt (cs : List Value) : Prop := ∀ v, v ∈ cs → ∃ z, v = .int .i64 z ∧ (Lit.int .i64 z).wf = true
section
variable {H : Type} {enc : TypeId × Value → H} {P : Program} {w : World} {base : Nat} {spare : Nat → Bool} {held : Bool}
/-- What reads as t is int64 numbers alone. -/
def Ints (enc : TypeId × Value → H) (P : Program) (w : World) (base : Nat) (spare : Nat → Bool) (held : Bool) (t : TypeId) : Prop :=
  ∀ fuel cs x, DataW.trod enc P w base spare held fuel t cs = some x → AllInt cs ∧ x.2 = []
theorem ints_int {t : TypeId} (hu : P.underlying t = some (.int .i64)) : Ints enc P w base spare held t := by
  intro fuel cs x h
  obtain ⟨n, h1, h2, h3⟩ := DataW.trod_int hu h
  subst h1
  refine ⟨fun v hv => ?_, ?_⟩
  · rw [List.mem_singleton] at hv; exact ⟨n, hv, h3⟩
  · rw [h2]
theorem ints_array {t e : TypeId} {n m : Nat} (hu : P.underlying t = some (.array n e)) (hc : P.cellsOf t = n * m) (hm : P.cellsOf e = m) (he : Ints enc P w base spare held e) : Ints enc P w base spare held t := by
  intro fuel cs x h
  obtain ⟨xs, k, rfl, rfl, hl, hx, hi⟩ := DataW.trod_array hu h
  rw [hc] at hl
  rw [hm] at hi
  refine ⟨fun v hv => ?_, ?_⟩
  · obtain ⟨q, hq, rfl⟩ := List.getElem_of_mem hv
    have hm0 : 0 < m := by
      rcases Nat.eq_zero_or_pos m with h0 | h0
      · subst h0; omega
      · exact h0
    have hqm : q / m < n := by rw [Nat.div_lt_iff_lt_mul hm0]; omega
    have hh := hi (q / m) hqm
    rw [List.getElem?_eq_getElem (by omega)] at hh
    refine (he _ _ _ hh).1 _ ?_
    rw [List.mem_iff_getElem?]
    refine ⟨q % m, ?_⟩
    rw [List.getElem?_take_of_lt (Nat.mod_lt _ hm0), List.getElem?_drop, Nat.mul_comm, Nat.div_add_mod]
    exact List.getElem?_eq_getElem hq
  · show xs.flatMap (·.2) = []
    rw [List.flatMap_eq_nil_iff]
    intro y hy
    obtain ⟨q, hq, rfl⟩ := List.getElem_of_mem hy
    have hh := hi q (by omega)
    rw [List.getElem?_eq_getElem hq] at hh
    exact (he _ _ _ hh).2
/-- A struct of two: U's numbers, then D's. -/
theorem ints_struct2 {t : TypeId} {f0 f1 : Field} {a b : Nat} (hu : P.underlying t = some (.struct #[f0, f1])) (hc : P.cellsOf t = a + b) (o0 : f0.offset = 0) (o1 : f1.offset = a) (c0 : P.cellsOf f0.type = a) (c1 : P.cellsOf f1.type = b)
    (h0 : Ints enc P w base spare held f0.type) (h1 : Ints enc P w base spare held f1.type) : Ints enc P w base spare held t := by
  intro fuel cs x h
  obtain ⟨xs, k, rfl, rfl, hl, hx, hi⟩ := DataW.trod_struct hu h
  rw [hc] at hl
  have hx2 : xs.length = 2 := hx
  have g0 := hi 0 f0 rfl
  have g1 := hi 1 f1 rfl
  rw [List.getElem?_eq_getElem (by omega)] at g0 g1
  have r0 := h0 _ _ _ g0
  have r1 := h1 _ _ _ g1
  refine ⟨fun v hv => ?_, ?_⟩
  · obtain ⟨q, hq, rfl⟩ := List.getElem_of_mem hv
    by_cases hqa : q < a
    · refine r0.1 _ ?_
      rw [List.mem_iff_getElem?]
      refine ⟨q, ?_⟩
      rw [c0, o0, List.drop_zero, List.getElem?_take_of_lt hqa]
      exact List.getElem?_eq_getElem hq
    · refine r1.1 _ ?_
      rw [List.mem_iff_getElem?]
      refine ⟨q - a, ?_⟩
      rw [c1, o1, List.getElem?_take_of_lt (by omega), List.getElem?_drop, show a + (q - a) = q by omega]
      exact List.getElem?_eq_getElem hq
  · show xs.flatMap (·.2) = []
    rw [List.flatMap_eq_nil_iff]
    intro y hy
    obtain ⟨q, hq, rfl⟩ := List.getElem_of_mem hy
    obtain rfl | rfl : q = 0 ∨ q = 1 := by omega
    · exact r0.2
    · exact r1.2
/-- A struct whose fields cover its cells. -/
theorem ints_struct {t : TypeId} {fs : Array Field} {n : Nat} (hu : P.underlying t = some (.struct fs)) (hc : P.cellsOf t = n)
    (hcov : ∀ q, q < n → ∃ (j : Nat) (f : Field), fs[j]? = some f ∧ f.offset ≤ q ∧ q < f.offset + P.cellsOf f.type)
    (hI : ∀ (j : Nat) (f : Field), fs[j]? = some f → Ints enc P w base spare held f.type) : Ints enc P w base spare held t := by
  intro fuel cs x h
  obtain ⟨xs, k, rfl, rfl, hl, hx, hi⟩ := DataW.trod_struct hu h
  rw [hc] at hl
  refine ⟨fun v hv => ?_, ?_⟩
  · obtain ⟨q, hq, rfl⟩ := List.getElem_of_mem hv
    obtain ⟨j, f, hj, h1, h2⟩ := hcov q (by omega)
    have hjl : j < xs.length := by rw [hx]; exact (Array.getElem?_eq_some_iff.1 hj).1
    have g := hi j f hj
    rw [List.getElem?_eq_getElem hjl] at g
    refine (hI j f hj _ _ _ g).1 _ ?_
    rw [List.mem_iff_getElem?]
    refine ⟨q - f.offset, ?_⟩
    rw [List.getElem?_take_of_lt (by omega), List.getElem?_drop, show f.offset + (q - f.offset) = q by omega]
    exact List.getElem?_eq_getElem hq
  · show xs.flatMap (·.2) = []
    rw [List.flatMap_eq_nil_iff]
    intro y hy
    obtain ⟨q, hq, rfl⟩ := List.getElem_of_mem hy
    have hq2 : q < fs.size := by rw [← hx]; exact hq
    have g := hi q fs[q] (Array.getElem?_eq_getElem hq2)
    rw [List.getElem?_eq_getElem hq] at g
    exact (hI q _ (Array.getElem?_eq_getElem hq2) _ _ _ g).2
/-- A value of such a type: an aggregate of numbers. -/
theorem open_vec {r : Reach} {b0 n : Nat} {t : TypeId} {v : Value} {d : DataW H} {ps : List MemPlace} (hI : Ints enc P w base spare held t) (hc : P.cellsOf t = n)
    (hu : ∃ u, P.underlying t = some u ∧ (match u with | .struct _ | .array _ _ => true | _ => false) = true) (hval : Value.okWide P w r b0 t v) (hd : DataW.Trod enc P w base spare held t v d ps) :
    ∃ f : Nat → Int, v = .agg (arrv n f) ∧ (∀ i, -9223372036854775808 ≤ f i ∧ f i ≤ 9223372036854775807) ∧ ps = [] := by
  obtain ⟨u, hu1, hu2⟩ := hu
  have hv : ∃ cs, v = .agg cs ∧ cs.size = P.cellsOf t := by
    unfold Value.okWide at hval
    rw [hu1] at hval
    cases u <;> simp at hu2 hval <;> (obtain ⟨cs, h1, h2, _⟩ := hval; exact ⟨cs, h1, h2⟩)
  obtain ⟨cs, rfl, hs⟩ := hv
  rw [hc] at hs
  obtain ⟨fuel, hf⟩ := hd
  obtain ⟨hA, hp⟩ := hI _ _ _ hf
  have hA' : ∀ i, i < n → ∃ z, cs[i]? = some (.int .i64 z) ∧ (Lit.int .i64 z).wf = true := by
    intro i hi
    have hm : cs[i]'(by omega) ∈ (Value.agg cs).cells.toList := by simp [Value.cells]
    obtain ⟨z, hz, hw⟩ := hA _ hm
    exact ⟨z, by rw [Array.getElem?_eq_getElem (by omega), hz], hw⟩
  refine ⟨fun i => if h : i < n then Classical.choose (hA' i h) else 0, ?_, fun i => ?_, hp⟩
  · congr 1
    apply Array.ext_getElem?
    intro i
    by_cases hi : i < n
    · rw [arrv_get hi]
      simp only [dif_pos hi]
      exact (Classical.choose_spec (hA' i hi)).1
    · rw [Array.getElem?_eq_none (by omega), Array.getElem?_eq_none (by rw [arrv_size]; omega)]
  · by_cases hi : i < n
    · simp only [dif_pos hi]
      exact Go.bounds_i64 (Classical.choose_spec (hA' i hi)).2
    · simp only [dif_neg hi]; omega
end
end Go.Proofs.Ytpbgglkopfjagaa
/- The join of a law: arguments that read before the call read behind it, if nothing that was there has turned. -/
namespace Go.Proofs.Ytpbgglkopfjagaa
open Go.ChangeShapes Go.WideShapes Go.ChangeAt Go.RowKit
theorem trodAll_stays {H : Type} {enc : TypeId × Value → H} {P : Program} (hl : laidOutB P = true) {W W' : World} (hb : Below W.heap.size W W') {sp : Nat → Bool} : ∀ {ts : List TypeId} {vs : List Value} {ds : List (DataW H)} {p : List MemPlace},
    (ts.all fun t => P.readableRec t && decide (t < P.types.size)) = true → DataW.TrodAll enc P W 0 (fun _ => true) true ts vs ds p → (∀ x ∈ p, x.block < W.heap.size) → (∀ x ∈ p, sp x.block = true) → DataW.TrodAll enc P W' 0 sp true ts vs ds p
  | [], [], [], _, _, h, _, _ => h
  | t :: ts, v :: vs, d :: ds, p, ht, h, hlt, hsp => by
    obtain ⟨q, r, h1, h2, rfl⟩ := h
    rw [List.all_cons, Bool.and_eq_true, Bool.and_eq_true, decide_eq_true_eq] at ht
    exact ⟨q, r, WideElems.Trod_stays hl ht.1.1 ht.1.2 h1 (fun x hx => hb.same (hlt x (List.mem_append_left _ hx))) (fun x hx => hsp x (List.mem_append_left _ hx)),
      trodAll_stays hl hb ht.2 h2 (fun x hx => hlt x (List.mem_append_right _ hx)) (fun x hx => hsp x (List.mem_append_right _ hx)), rfl⟩
  | [], _ :: _, _, _, _, h, _, _ => by cases ‹List (DataW H)› <;> exact h.elim
  | [], [], _ :: _, _, _, h, _, _ => h.elim
  | _ :: _, [], _, _, _, h, _, _ => by cases ‹List (DataW H)› <;> exact h.elim
  | _ :: _, _ :: _, [], _, _, h, _, _ => h.elim
/-- What a law owes behind the call: it answers true, and nothing that was there has turned. -/
theorem law_post {H : Type} {enc : TypeId × Value → H} {P : Program} {f : Func} {s : ChangeSpec} {apart fresh handsOn again : Bool} {W W' : World} {args : Array Value} {ds gs : List (DataW H)} {before : List MemPlace} {tb : TypeId}
    (hW : DataW.Whole enc P f.params.toList s.vars apart W args.toList ds gs before) (hv : s.vars = []) (hfn : s.fn H ds = { results := [.lit (.bool true)], args := ds })
    (hu : P.underlying tb = some .bool) (hr : f.resultTypes = #[tb]) (hl : laidOutB P = true) (hts : (f.params.toList.all fun t => P.readableRec t && decide (t < P.types.size)) = true) (hb : Below W.heap.size W W') :
    s.post enc P f apart fresh handsOn again W args (.bool true) W' := by
  have hlt : ∀ x ∈ before, x.block < W.heap.size := fun x hx => hW.lt x hx
  have hW0 := hW
  obtain ⟨p, q, hA, hV, rfl, hfz, hnd⟩ := hW
  rw [hv] at hV
  obtain ⟨rfl, rfl⟩ := trodVars_none hV
  rw [List.append_nil] at hlt
  have hargs : ∀ sp : Nat → Bool, (∀ x ∈ p, sp x.block = true) → DataW.TrodAll enc P W' 0 sp true f.params.toList args.toList ds p := fun sp hsp => trodAll_stays hl hb hts hA hlt hsp
  have hvars : ∀ sp : Nat → Bool, DataW.TrodVars enc P W' sp s.vars ([] : List (DataW H)) [] := fun sp => by rw [hv]; exact rfl
  have hres : ∀ (b : Nat) (sp : Nat → Bool) (hd : Bool), DataW.TrodAll enc P W' b sp hd f.resultTypes.toList ((Value.bool true).resultList f.resultTypes.size) [.lit (.bool true)] [] := fun b sp hd => by
    rw [hr]; exact trodAll_mk1 (shut_bool hu _)
  have hold : ∀ x ∈ p, (fun b => decide (b < W.heap.size)) x.block = true := fun x hx => by simpa using hlt x hx
  have hfn' : s.fn H (ds ++ []) = { results := [.lit (.bool true)], args := ds } := by rw [List.append_nil]; exact hfn
  refine ⟨ds, [], p ++ [], [], p, [], hW0, ?_, ?_, ?_, World.keptBut_mono (fun x hx => ⟨hx, ?_⟩) (hb.frame (· ∈ p ++ [])), fun _ => ?_⟩
  · rw [hfn']; exact hres _ _ _
  · rw [hfn']; exact hargs _ hold
  · rw [hfn']; exact hvars _
  · rw [List.append_nil] at hx; exact Or.inr (.inl hx)
  · refine ⟨ok_one hr rfl (okWide_bool_mk hu _), _, _, ([] ++ p) ++ [], ⟨[] ++ p, [], trodAll_append (hargs _ (fun _ _ => rfl)) (hres _ _ _), hvars _, rfl, ?_, ?_⟩, ?_⟩
    · intro b off hx
      have hin : MemPlace.cell b off ∈ p := by simpa using hx
      rw [hb.frozen (p := ⟨b, off, none⟩) (hlt _ hin)]
      exact hfz b off (by simpa using hin)
    · intro ha
      simpa using hnd ha
    · intro x hx _
      simpa using hx
/-- A slice of int64 (or of int: the numbers are of the same kind), opened. -/
theorem open_slc {H : Type} {enc : TypeId × Value → H} {P : Program} {w : World} {base : Nat} {spare : Nat → Bool} {held : Bool} {r : Reach} {b0 : Nat} {t e : TypeId} {v : Value} {d : DataW H} {ps : List MemPlace} (ht : P.underlying t = some (.slice e)) (he : P.underlying e = some (.int .i64)) (hc : P.cellsOf e = 1)
    (hval : Value.okWide P w r b0 t v) (hd : DataW.Trod enc P w base spare held t v d ps) :
    ∃ p n cp L, v = .slice p n cp ∧ Slc w p n L ∧ n ≤ 9223372036854775807 ∧ ∀ i, -9223372036854775808 ≤ L i ∧ L i ≤ 9223372036854775807 := by
  obtain ⟨a, n, cp, rfl⟩ := okWide_slice ht hval
  obtain ⟨fuel, hf⟩ := hd
  rcases open_ints ht he hc hf with ⟨h0, _⟩ | ⟨ad, len, cap, zs, h0, _, hlc, hcm, hlen, _, hcell, hwf⟩
  · simp [Value.cells] at h0
    obtain ⟨rfl, rfl, rfl⟩ := h0
    exact ⟨none, 0, 0, fun _ => 0, rfl, fun i hi => by omega, by omega, fun _ => ⟨by show (-9223372036854775808 : Int) ≤ 0; omega, by show (0 : Int) ≤ 9223372036854775807; omega⟩⟩
  · simp [Value.cells] at h0
    obtain ⟨rfl, rfl, rfl⟩ := h0
    have hz : n ≤ zs.length := by rw [hlen]; split <;> omega
    refine ⟨some ad, n, cp, fun i => zs.getD i 0, rfl, fun i hi => ?_, by unfold maxLen at hcm; omega, fun i => ?_⟩
    · obtain ⟨b, off, rfl, hb⟩ := ints_at hcell (by omega)
      exact ⟨b, off, rfl, hb i (by omega)⟩
    · by_cases hi : i < zs.length
      · have := Go.bounds_i64 (hwf _ (List.getElem_mem hi))
        simpa [hi] using this
      · simp [List.getElem?_eq_none (by omega : zs.length ≤ i)]
section
variable {H : Type} {enc : TypeId × Value → H} {w : World} {base : Nat} {spare : Nat → Bool} {held : Bool}
theorem cells_of_size {P : Program} {t : TypeId} {n : Nat} (h : (P.info? t).map (·.size) = some n) : P.cellsOf t = n := by
  unfold Program.cellsOf
  cases e : P.info? t with
  | none => rw [e] at h; cases h
  | some i => rw [e] at h; simpa using h
theorem cells_i64 : Try.prog.cellsOf 2 = 1 := cells_of_size (by kernel_rfl)
theorem cells_col : Try.prog.cellsOf 22 = 24 := cells_of_size (by kernel_rfl)
theorem cells_int : Try.prog.cellsOf 3 = 1 := cells_of_size (by kernel_rfl)
theorem cells_row : Try.prog.cellsOf 39 = 24 := cells_of_size (by kernel_rfl)
theorem cells_u : Try.prog.cellsOf 24 = 276 := cells_of_size (by kernel_rfl)
theorem cells_cov : Try.prog.cellsOf 26 = 300 := cells_of_size (by kernel_rfl)
theorem ints_i64 : Ints enc Try.prog w base spare held 2 := ints_int Try.underlying2
theorem ints_col : Ints enc Try.prog w base spare held 22 := ints_array (n := 24) (m := 1) Try.underlying22 cells_col cells_i64 ints_i64
theorem ints_row : Ints enc Try.prog w base spare held 39 := ints_array (n := 24) (m := 1) Try.underlying39 cells_row cells_i64 ints_i64
theorem ints_u : Ints enc Try.prog w base spare held 24 := ints_array (n := 276) (m := 1) Try.underlying24 cells_u cells_i64 ints_i64
theorem ints_cov : Ints enc Try.prog w base spare held 26 := ints_struct2 (a := 276) (b := 24) Try.underlying26 cells_cov rfl rfl cells_u cells_col ints_u ints_col
theorem cells_st : Try.prog.cellsOf 23 = 24 := cells_of_size (by kernel_rfl)
theorem ints_st : Ints enc Try.prog w base spare held 23 := ints_array (n := 24) (m := 1) Try.underlying23 cells_st cells_i64 ints_i64
theorem cells_obs : Try.prog.cellsOf 41 = 27 := cells_of_size (by kernel_rfl)
theorem ints_int' : Ints enc Try.prog w base spare held 3 := ints_int Try.underlying3
set_option maxRecDepth 100000 in
theorem ints_obs : Ints enc Try.prog w base spare held 41 := by
  refine ints_struct (n := 27) Try.underlying41 cells_obs (fun q hq => ?_) (fun j f hj => ?_)
  · by_cases h0 : q < 24
    · exact ⟨0, _, rfl, Nat.zero_le _, by show q < 0 + Try.prog.cellsOf 39; rw [cells_row]; omega⟩
    · obtain rfl | rfl | rfl : q = 24 ∨ q = 25 ∨ q = 26 := by omega
      · exact ⟨1, _, rfl, Nat.le_refl _, by show 24 < 24 + Try.prog.cellsOf 2; rw [cells_i64]; omega⟩
      · exact ⟨2, _, rfl, Nat.le_refl _, by show 25 < 25 + Try.prog.cellsOf 2; rw [cells_i64]; omega⟩
      · exact ⟨3, _, rfl, Nat.le_refl _, by show 26 < 26 + Try.prog.cellsOf 3; rw [cells_int]; omega⟩
  · match j, hj with
    | 0, hj => cases hj; exact ints_row
    | 1, hj => cases hj; exact ints_i64
    | 2, hj => cases hj; exact ints_i64
    | 3, hj => cases hj; exact ints_int'
    | n + 4, hj => rw [Array.getElem?_eq_none (by show 4 ≤ n + 4; omega)] at hj; cases hj
theorem own_knob : ownKnob Try.prog.godebug = none := by kernel_rfl
theorem laid_out : laidOutB Try.prog = true := by kernel_rfl
end
end Go.Proofs.Ytpbgglkopfjagaa
/- An argument that is a slice of arrays or structs of int64 numbers, opened as numbers. -/
namespace Go.Proofs.Ytpbgglkopfjagaa
open Go.ChangeShapes Go.WideShapes Go.ChangeAt Go.RowKit
theorem open_vecs {H : Type} {enc : TypeId × Value → H} {P : Program} {w : World} {base : Nat} {spare : Nat → Bool} {held : Bool} {r : Reach} {b0 m : Nat} {t e : TypeId} {v : Value} {d : DataW H} {ps : List MemPlace} (ht : P.underlying t = some (.slice e)) (hI : Ints enc P w base spare held e) (hc : P.cellsOf e = m) (hm : 0 < m)
    (hval : Value.okWide P w r b0 t v) (hd : DataW.Trod enc P w base spare held t v d ps) :
    ∃ p n cp L, v = .slice p n cp ∧ Slc w p (m * n) L ∧ n ≤ 9223372036854775807 ∧ (∀ i, -9223372036854775808 ≤ L i ∧ L i ≤ 9223372036854775807) ∧ ∀ i, m * n ≤ i → L i = 0 := by
  obtain ⟨a, n, cp, rfl⟩ := okWide_slice ht hval
  obtain ⟨fuel, hf⟩ := hd
  have z0 : ∀ _ : Nat, (-9223372036854775808 : Int) ≤ 0 ∧ (0 : Int) ≤ 9223372036854775807 := fun _ => ⟨by omega, by omega⟩
  rcases DataW.trod_slice ht hf with ⟨h0, _⟩ | ⟨ad, len, cap, elems, rest, k, _, h0, _, hb, hl, hmx, hlen, hel, _, _⟩
  · simp [Value.cells] at h0
    obtain ⟨rfl, rfl, rfl⟩ := h0
    exact ⟨none, 0, 0, fun _ => 0, rfl, fun i hi => by simp at hi, by omega, z0, fun _ _ => rfl⟩
  · simp [Value.cells] at h0
    obtain ⟨rfl, rfl, rfl⟩ := h0
    have hmx' : n ≤ 9223372036854775807 := by unfold maxLen at hmx; omega
    have each : ∀ i, i < m * n → ∃ z : Int, w.cell? ((ad.add (i / m * m)).add (i % m)) = some (.int .i64 z) ∧ (Lit.int .i64 z).wf = true := by
      intro i hi
      have hq : i / m < n := Nat.div_lt_of_lt_mul hi
      have hh := hel (i / m) hq
      rw [List.getElem?_eq_getElem (by omega), Option.bind_eq_some_iff] at hh
      obtain ⟨cs, hcs, hy⟩ := hh
      rw [hc] at hcs
      obtain ⟨_, hcl, hce⟩ := World.cells?_some hcs
      have hr : i % m < m := Nat.mod_lt _ hm
      have hz := (hI _ _ _ hy).1 (cs[i % m]'(by omega)) (List.getElem_mem _)
      obtain ⟨z, hz1, hz2⟩ := hz
      refine ⟨z, ?_, hz2⟩
      rw [hce _ hr, List.getElem?_eq_getElem (by omega), hz1]
    rcases Nat.eq_zero_or_pos n with h0 | hpos
    · subst h0
      exact ⟨some ad, 0, cp, fun _ => 0, rfl, fun i hi => by simp at hi, by omega, z0, fun _ _ => rfl⟩
    · obtain ⟨b, off, spot⟩ := ad
      have hspot : spot = none := by
        obtain ⟨z, hz, _⟩ := each 0 (Nat.mul_pos hm hpos)
        have := World.cell?_spot hz
        simpa [Addr.add] using this
      subst hspot
      have each : ∀ i, i < m * n → ∃ z : Int, w.cell? ⟨b, off + i, none⟩ = some (.int .i64 z) ∧ (Lit.int .i64 z).wf = true := by
        intro i hi
        obtain ⟨z, hz, hw⟩ := each i hi
        rw [Go.WideShapes.add_plain, Go.WideShapes.add_plain, Nat.add_assoc, Nat.div_add_mod'] at hz
        exact ⟨z, hz, hw⟩
      refine ⟨some ⟨b, off, none⟩, n, cp, fun i => if h : i < m * n then Classical.choose (each i h) else 0, rfl, fun i hi => ⟨b, off, rfl, ?_⟩, hmx', fun i => ?_, fun i hi => dif_neg (by omega)⟩
      · simp only [dif_pos hi]
        exact (Classical.choose_spec (each i hi)).1
      · by_cases h : i < m * n
        · simp only [dif_pos h]
          exact Go.bounds_i64 (Classical.choose_spec (each i h)).2
        · simp only [dif_neg h]; exact z0 0
end Go.Proofs.Ytpbgglkopfjagaa
/- A region that draws its order: behind its last call another fact about the world may be taken up. -/
namespace Go.Proofs.Ytpbgglkopfjagaa
open Go
theorem getD_keeps {listed : Array Bool} {i L : Nat} (h : listed.getD L false = true) : (listed.setIfInBounds i true).getD L false = true := by
  by_cases hi : i = L
  · subst hi
    rcases Nat.lt_or_ge i listed.size with h' | h'
    · simp [h']
    · simp [Array.getElem?_eq_none h'] at h
  · rw [getD_set_ne' false hi]; exact h
theorem wpAnyM_of_any {P : Program} {md : Region.Mode} {ops : Array Oper} {Q : Exit → Act → World → Prop} {S : World → Prop} {L : Nat} : ∀ (fuel : Nat) (listed : Array Bool) (a : Act) (w : World), listed.getD L false = true → wpAny P md ops Q fuel listed a w → wpAnyM P md ops Q S L fuel listed a w
  | 0, _, _, _, _, h => h
  | fuel + 1, _, _, _, hL, h => ⟨h.1, fun i hi => wpOp_mono (fun a' w' h' => ⟨.inl (getD_keeps hL), wpAnyM_of_any fuel _ a' w' (getD_keeps hL) h'⟩) (h.2 i hi)⟩
theorem wpAnyM_switch {P : Program} {md : Region.Mode} {ops : Array Oper} {Q : Exit → Act → World → Prop} {S : World → Prop} {L : Nat} (S' : World → Prop) (L' : Nat) {fuel : Nat} {listed : Array Bool} {a : Act} {w : World}
    (hL : listed.getD L false = true) (hS : S' w) (h : S' w → wpAnyM P md ops Q S' L' fuel listed a w) : wpAnyM P md ops Q S L fuel listed a w :=
  wpAnyM_of_any fuel listed a w hL (wpAny_of_M fuel listed a w (h hS))
/-- Take number i first: x waits for it, and L for x. -/
theorem wpAnyM_first2 {P : Program} {md : Region.Mode} {ops : Array Oper} {Q : Exit → Act → World → Prop} {S : World → Prop} {L : Nat} {i x : Nat} {oi : Oper} {v : Value} (hi : ops[i]? = some oi) (hsel : ∀ (j : Nat) (o : Oper) cs b, ops[j]? = some o → o.op ≠ .select cs b)
    (hQ : ∀ c a w, Q (.panic c) (a.put oi.dst v) w → Q (.panic c) a w) (hiL : i ≠ L) (hiX : i ≠ x)
    (hX : Region.waitsFor md ops x i = true) (hL : Region.waitsFor md ops L x = true) :
    ∀ (fuel : Nat) (listed : Array Bool) (a : Act) (w : World), listed.getD L false = false → listed.getD x true = false →
      (∀ j oj, ops[j]? = some oj → j ≠ i → listed.getD j true = false → (∀ e ∈ oj.after, Region.binds md e = true → e.on ≠ i) → oi.apart ops oj = true) →
      i ∈ Region.ready md ops listed → YieldsIf P ops S oi v a → S w →
      wpAnyM P md ops Q S L fuel (listed.setIfInBounds i true) (a.put oi.dst v) w → wpAnyM P md ops Q S L (fuel + 1) listed a w := by
  intro fuel
  induction fuel with
  | zero =>
    intro listed a w _ _ _ hr hy hGw H
    refine ⟨fun h => (by rw [h] at hr; cases hr), fun j hj => ?_⟩
    by_cases hji : j = i
    · subst hji; exact hy.wpOp hi hGw ⟨.inr hGw, H⟩
    · have := ready_mono hj hji
      rw [H.1] at this
      cases this
  | succ fuel ih =>
    intro listed a w hLw hXw hfree hr hy hGw H
    refine ⟨fun h => (by rw [h] at hr; cases hr), fun j hj => ?_⟩
    by_cases hji : j = i
    · subst hji; exact hy.wpOp hi hGw ⟨.inr hGw, H⟩
    · have h1 := H.2 j (ready_mono hj hji)
      obtain ⟨hjun, oj, hoj, hall⟩ := mem_ready.1 hj
      have hiun := (mem_ready.1 hr).1
      have hnot : ∀ e ∈ oj.after, Region.binds md e = true → e.on ≠ i := fun e he hb heq => by
        have h2 := hall e he hb
        rw [heq] at h2
        exact getD_of_ready hiun h2
      have hjX : j ≠ x := fun e => by
        subst e
        obtain ⟨oX, hoX, e, he, hb, hon⟩ := Region.waitsFor_spec hX
        have : oX = oj := Option.some.inj (hoX.symm.trans hoj)
        subst this
        exact hnot e he hb hon
      have hjL : j ≠ L := fun e => by
        subst e
        obtain ⟨oL, hoL, e, he, hb, hon⟩ := Region.waitsFor_spec hL
        have : oL = oj := Option.some.inj (hoL.symm.trans hoj)
        subst this
        have h2 := hall e he hb
        rw [hon] at h2
        exact getD_of_ready hXw h2
      have h2 := wpOp_putIf hoj (hfree j oj hoj hji hjun hnot) (fun cs b => hsel i oi cs b hi) (fun cs b => hsel j oj cs b hoj) hQ hy h1
      have hfree' : ∀ k ok, ops[k]? = some ok → k ≠ i → (listed.setIfInBounds j true).getD k true = false →
          (∀ e ∈ ok.after, Region.binds md e = true → e.on ≠ i) → oi.apart ops ok = true := fun k ok hk hki hun hno => by
        refine hfree k ok hk hki ?_ hno
        by_cases hjk : j = k
        · subst hjk; exact hjun
        · rw [getD_set_ne true hjk] at hun; exact hun
      refine wpOp_mono (fun a' w' h3 => ?_) h2
      have hL' : (listed.setIfInBounds j true).getD L false = false := by rw [getD_set_ne' _ hjL]; exact hLw
      have hX' : (listed.setIfInBounds j true).getD x true = false := by rw [getD_set_ne' _ hjX]; exact hXw
      have hS' : S w' := by
        refine h3.2.1.resolve_left fun h => ?_
        rw [Array.setIfInBounds_comm _ _ (Ne.symm hji), getD_set_ne' _ hiL, hL'] at h
        cases h
      refine ⟨.inr hS', ih (listed.setIfInBounds j true) a' w' hL' hX' hfree' (ready_mono hr (Ne.symm hji)) h3.1 hS' ?_⟩
      rw [Array.setIfInBounds_comm _ _ hji]
      exact h3.2.2
theorem wpAnyM_take2 (x : Nat) (i : Nat) {P : Program} {md : Region.Mode} {ops : Array Oper} {Q : Exit → Act → World → Prop} {S : World → Prop} {L : Nat} {oi : Oper} {v : Value} {fuel : Nat} {listed : Array Bool} {a : Act} {w : World} (hi' : ops.toList[i]? = some oi)
    (hk : (Region.noSelect ops && (Region.free md ops listed i && ((Region.ready md ops listed).contains i && (Region.waitsFor md ops x i && (Region.waitsFor md ops L x && (!listed.getD L false && (!listed.getD x true && (!(i == L) && !(i == x))))))))) = true)
    (hQ : ∀ c a w, Q (.panic c) (a.put oi.dst v) w → Q (.panic c) a w) (hy : YieldsIf P ops S oi v a) (hS : S w)
    (h : wpAnyM P md ops Q S L fuel (listed.setIfInBounds i true) (a.put oi.dst v) w) : wpAnyM P md ops Q S L (fuel + 1) listed a w := by
  have hi : ops[i]? = some oi := by rwa [Array.getElem?_toList] at hi'
  simp only [Bool.and_eq_true, Bool.not_eq_true'] at hk
  obtain ⟨k1, k2, k3, k4, k5, k6, k7, k8, k9⟩ := hk
  exact wpAnyM_first2 hi (Region.noSelect_spec k1) hQ (by simpa using k8) (by simpa using k9) k4 k5 fuel listed a w k6 k7 (Region.free_spec hi k2) (by simpa using k3) hy hS h
/-- Take number i first: those of X wait for it or for one of X, and L is of X. -/
theorem wpAnyM_firstX {P : Program} {md : Region.Mode} {ops : Array Oper} {Q : Exit → Act → World → Prop} {S : World → Prop} {L : Nat} {i : Nat} (X : List Nat) {oi : Oper} {v : Value} (hi : ops[i]? = some oi) (hsel : ∀ (j : Nat) (o : Oper) cs b, ops[j]? = some o → o.op ≠ .select cs b)
    (hQ : ∀ c a w, Q (.panic c) (a.put oi.dst v) w → Q (.panic c) a w) (hiX : i ∉ X) (hLX : L ∈ X)
    (hX : ∀ x, x ∈ X → Region.waitsFor md ops x i = true ∨ ∃ z, z ∈ X ∧ Region.waitsFor md ops x z = true) :
    ∀ (fuel : Nat) (listed : Array Bool) (a : Act) (w : World), (∀ x, x ∈ X → listed.getD x true = false) →
      (∀ j oj, ops[j]? = some oj → j ≠ i → listed.getD j true = false → (∀ e ∈ oj.after, Region.binds md e = true → e.on ≠ i) → oi.apart ops oj = true) →
      i ∈ Region.ready md ops listed → YieldsIf P ops S oi v a → S w →
      wpAnyM P md ops Q S L fuel (listed.setIfInBounds i true) (a.put oi.dst v) w → wpAnyM P md ops Q S L (fuel + 1) listed a w := by
  have hiL : i ≠ L := fun e => hiX (e ▸ hLX)
  intro fuel
  induction fuel with
  | zero =>
    intro listed a w _ _ hr hy hGw H
    refine ⟨fun h => (by rw [h] at hr; cases hr), fun j hj => ?_⟩
    by_cases hji : j = i
    · subst hji; exact hy.wpOp hi hGw ⟨.inr hGw, H⟩
    · have := ready_mono hj hji
      rw [H.1] at this
      cases this
  | succ fuel ih =>
    intro listed a w hXw hfree hr hy hGw H
    refine ⟨fun h => (by rw [h] at hr; cases hr), fun j hj => ?_⟩
    by_cases hji : j = i
    · subst hji; exact hy.wpOp hi hGw ⟨.inr hGw, H⟩
    · have h1 := H.2 j (ready_mono hj hji)
      obtain ⟨hjun, oj, hoj, hall⟩ := mem_ready.1 hj
      have hiun := (mem_ready.1 hr).1
      have hnot : ∀ e ∈ oj.after, Region.binds md e = true → e.on ≠ i := fun e he hb heq => by
        have h2 := hall e he hb
        rw [heq] at h2
        exact getD_of_ready hiun h2
      have hjX : j ∉ X := fun hjx => by
        rcases hX j hjx with h | ⟨z, hz, h⟩
        · obtain ⟨oX, hoX, e, he, hb, hon⟩ := Region.waitsFor_spec h
          have : oX = oj := Option.some.inj (hoX.symm.trans hoj)
          subst this
          exact hnot e he hb hon
        · obtain ⟨oX, hoX, e, he, hb, hon⟩ := Region.waitsFor_spec h
          have : oX = oj := Option.some.inj (hoX.symm.trans hoj)
          subst this
          have h2 := hall e he hb
          rw [hon] at h2
          exact getD_of_ready (hXw z hz) h2
      have hjL : j ≠ L := fun e => hjX (e ▸ hLX)
      have h2 := wpOp_putIf hoj (hfree j oj hoj hji hjun hnot) (fun cs b => hsel i oi cs b hi) (fun cs b => hsel j oj cs b hoj) hQ hy h1
      have hfree' : ∀ k ok, ops[k]? = some ok → k ≠ i → (listed.setIfInBounds j true).getD k true = false →
          (∀ e ∈ ok.after, Region.binds md e = true → e.on ≠ i) → oi.apart ops ok = true := fun k ok hk hki hun hno => by
        refine hfree k ok hk hki ?_ hno
        by_cases hjk : j = k
        · subst hjk; exact hjun
        · rw [getD_set_ne true hjk] at hun; exact hun
      refine wpOp_mono (fun a' w' h3 => ?_) h2
      have hX' : ∀ x, x ∈ X → (listed.setIfInBounds j true).getD x true = false := fun x hx => by
        have hne : j ≠ x := fun e => by rw [e] at hjX; exact hjX hx
        rw [getD_set_ne' true hne]; exact hXw x hx
      have hS' : S w' := by
        refine h3.2.1.resolve_left fun h => ?_
        rw [Array.setIfInBounds_comm _ _ (Ne.symm hji), getD_set_ne' _ hiL] at h
        exact getD_of_ready (hX' L hLX) h
      refine ⟨.inr hS', ih (listed.setIfInBounds j true) a' w' hX' hfree' (ready_mono hr (Ne.symm hji)) h3.1 hS' ?_⟩
      rw [Array.setIfInBounds_comm _ _ hji]
      exact h3.2.2
theorem wpAnyM_takeX (X : List Nat) (i : Nat) {P : Program} {md : Region.Mode} {ops : Array Oper} {Q : Exit → Act → World → Prop} {S : World → Prop} {L : Nat} {oi : Oper} {v : Value} {fuel : Nat} {listed : Array Bool} {a : Act} {w : World} (hi' : ops.toList[i]? = some oi)
    (hk : (Region.noSelect ops && (Region.free md ops listed i && ((Region.ready md ops listed).contains i && (!X.contains i && (X.contains L && (X.all (fun x => (Region.waitsFor md ops x i || X.any fun z => Region.waitsFor md ops x z)) && X.all fun x => !listed.getD x true)))))) = true)
    (hQ : ∀ c a w, Q (.panic c) (a.put oi.dst v) w → Q (.panic c) a w) (hy : YieldsIf P ops S oi v a) (hS : S w)
    (h : wpAnyM P md ops Q S L fuel (listed.setIfInBounds i true) (a.put oi.dst v) w) : wpAnyM P md ops Q S L (fuel + 1) listed a w := by
  have hi : ops[i]? = some oi := by rwa [Array.getElem?_toList] at hi'
  simp only [Bool.and_eq_true, Bool.not_eq_true'] at hk
  obtain ⟨k1, k2, k3, k4, k5, k6, k7⟩ := hk
  refine wpAnyM_firstX X hi (Region.noSelect_spec k1) hQ (by simpa using k4) (by simpa using k5) (fun x hx => ?_) fuel listed a w (fun x hx => ?_) (Region.free_spec hi k2) (by simpa using k3) hy hS h
  · have := (List.all_eq_true.1 k6) x hx
    rw [Bool.or_eq_true] at this
    refine this.imp id fun h => ?_
    obtain ⟨z, hz, hz2⟩ := List.any_eq_true.1 h
    exact ⟨z, hz, hz2⟩
  · have := (List.all_eq_true.1 k7) x hx
    simpa using this
end Go.Proofs.Ytpbgglkopfjagaa
/- What FuseMany needs beside the contracts: a whole row loaded from wherever its cells lie; an empty slice of observations, and a whole one appended to it; '!=' of results. -/
namespace Go.Proofs.Ytpbgglkopfjagaa
open Go.RowKit
set_option maxRecDepth 100000
open Go in
theorem run_load_mid' {P : Program} {o : Oper} {ev : Operand → Value} {w : World} (ty : TypeId) (x : Operand) (ho : o.op = .load ty x) (b off n : Nat) (hx : ev x = .pointer (some ⟨b, off, none⟩)) (f : Nat → Int)
    (hc : ∀ j, j < n → w.cell? ⟨b, off + j, none⟩ = some (.int .i64 (f j))) (d : TypeDesc) (hu : P.underlying ty = some d) (hd : d.isRow = true) (hi : (P.info? ty).map (·.size) = some n) :
    (execOp ev o).run P w = .ok (.value (.agg (arrv n f))) w := by
  have h := run_loadVar_mid (P := P) w b off ty (arrv n f).toList d (fun j v hv => by
    have hj : j < n := by
      have := (List.getElem?_eq_some_iff.1 hv).1
      simpa [arrv_size] using this
    rw [Array.getElem?_toList, arrv_get hj] at hv
    injection hv with hv
    rw [← hv]; exact hc j hj) hu hd (by rw [hi, Array.length_toList, arrv_size])
  rw [Array.toArray_toList] at h
  unfold execOp
  simp [ho, hx, Instr.loadAt, Instr.sureAddr, Sem.run_bind, h]
open Go in
/-- A result loaded from wherever its cells lie. -/
theorem run_load_res {o : Oper} {ev : Operand → Value} {w : World} (x : Operand) (ho : o.op = .load 36 x) (b off : Nat) (hx : ev x = .pointer (some ⟨b, off, none⟩)) (t : Bool) (y s : Int)
    (h0 : w.cell? ⟨b, off, none⟩ = some (.bool t)) (h1 : w.cell? ⟨b, off + 1, none⟩ = some (.int .i64 y)) (h2 : w.cell? ⟨b, off + 2, none⟩ = some (.int .i64 s)) :
    (execOp ev o).run Try.prog w = .ok (.value (.agg (res3 t y s))) w := by
  have hi : (Try.prog.info? 36).map (·.size) = some 3 := by kernel_rfl
  have h := run_loadVar_mid (P := Try.prog) w b off 36 (res3 t y s).toList _ (fun j v hv => by
    have hj : j < 3 := (List.getElem?_eq_some_iff.1 hv).1
    rcases (show j = 0 ∨ j = 1 ∨ j = 2 by omega) with h | h | h
    · rw [h] at hv ⊢; simp [res3] at hv; rw [← hv]; exact h0
    · rw [h] at hv ⊢; simp [res3] at hv; rw [← hv]; exact h1
    · rw [h] at hv ⊢; simp [res3] at hv; rw [← hv]; exact h2) Try.underlying36 rfl (by rw [hi]; rfl)
  rw [Array.toArray_toList] at h
  unfold execOp
  simp [ho, hx, Instr.loadAt, Instr.sureAddr, Sem.run_bind, h]
open Go in
theorem run_equalIn_res (d : Nat) (w : World) (t : Bool) (a b : Int) : (Op.equalIn (d + 3) 36 (.agg (res3 t a b)) (.agg (res3 t a b))).run Try.prog w = .ok true w := by
  have hf := fieldsOf_of Try.underlying36
  rw [show d + 3 = (d + 2) + 1 from rfl, run_equalIn_struct w (d + 2) _ _ _ (by rw [hf]; exact Try.underlying36) (by kernel_rfl), hf]
  have p0 : (part 4 (res3 t a b) 0).run Try.prog w = .ok (.bool t) w := by kernel_rfl
  have p1 : (part 2 (res3 t a b) 1).run Try.prog w = .ok (.int .i64 a) w := by kernel_rfl
  have p2 : (part 2 (res3 t a b) 2).run Try.prog w = .ok (.int .i64 b) w := by kernel_rfl
  have q0 : (Op.equalIn (d + 2) 4 (.bool t) (.bool t)).run Try.prog w = .ok true w := by
    rw [show d + 2 = (d + 1) + 1 from rfl, run_equalIn_bool' w (d + 1) _ t t Try.underlying4]; simp
  have q1 : ∀ z : Int, (Op.equalIn (d + 2) 2 (.int .i64 z) (.int .i64 z)).run Try.prog w = .ok true w := fun z => by
    rw [show d + 2 = (d + 1) + 1 from rfl, run_equalIn_int w (d + 1) _ .i64 .i64 z z Try.underlying2]; simp
  have z : (Op.eqFields (d + 2) (res3 t a b) (res3 t a b) []).run Try.prog w = .ok true w := by simp [Op.eqFields]
  have e2 := run_eqFields_cons (f := ⟨"S", 2, 2, false, "", "", 16⟩) (by decide) p2 p2 (q1 b) z
  have e1 := run_eqFields_cons (f := ⟨"Y", 2, 1, false, "", "", 8⟩) (by decide) p1 p1 (q1 a) e2
  have e0 := run_eqFields_cons (f := ⟨"Taken", 4, 0, false, "", "", 0⟩) (by decide) p0 p0 q0 e1
  exact e0
theorem run_equal_res (w : World) (t : Bool) (a b : Int) : (Go.Op.equal 36 (.agg (res3 t a b)) (.agg (res3 t a b))).run Try.prog w = .ok true w := run_equalIn_res 9997 w t a b
open Go in
theorem run_op_neqRes {o : Oper} {ev : Operand → Value} {w : World} (x y : Operand) (ho : o.op = .binOp .neq 36 x y 36) {t : Bool} {a b : Int} (hx : ev x = .agg (res3 t a b)) (hy : ev y = .agg (res3 t a b)) :
    (execOp ev o).run Try.prog w = .ok (.value (.bool false)) w := by
  have e := run_equal_res w t a b
  have hG : Try.prog.eqGuardType Try.prog.depth 36 = false := by kernel_rfl
  unfold execOp
  simp only [ho, hx, hy, eqGuard, binOp, Sem.run_bind, Sem.run_pure, Result.andThen_ok]
  simp [hG, e, go_sem]
open Go in
theorem wp_bsl0_obs {o : Oper} {a : Act} {w : World} {K : Act → World → Prop} {Q : Exit → Act → World → Prop} (ho : o.op = .buildSlice 27 0 #[])
    (h : K (a.put o.dst (.slice (some ⟨w.heap.size, 0, none⟩) 0 0)) (w.alloc (.cells #[] 41))) : o.wp Try.prog a w K Q := by
  have hr : (Instr.buildSlice 27 0 #[]).run Try.prog w = .ok (.slice (some ⟨w.heap.size, 0, none⟩) 0 0) (w.alloc (.cells #[] 41)) := by
    have hs : (sizeOf 41).run Try.prog w = .ok 27 w := by kernel_rfl
    unfold Instr.buildSlice
    simp [Sem.run_bind, run_underlying Try.underlying27, hs, Instr.fill, newRow, newObj, go_sem]
    rfl
  unfold Oper.wp execOp
  simp only [ho, Sem.run_bind, List.map_toArray, List.map_nil, hr, Result.andThen_ok]
  exact h
/-- A slice of n observations in a block of its own, from its head on. -/
def ManyO (w : World) (q : Option Addr) (n : Nat) (O : Nat → Int) : Prop := 0 < n → ∃ g m, q = some ⟨g, 0, none⟩ ∧ n ≤ m ∧ Blk w g 41 (27 * m) O
theorem ManyO.below {w w' : World} {q : Option Addr} {n : Nat} {O : Nat → Int} (h : ManyO w q n O) (b : Below w.heap.size w w') : ManyO w' q n O := fun h0 => by
  obtain ⟨g, m, e, hm, hb⟩ := h h0
  exact ⟨g, m, e, hm, hb.below b⟩
theorem info_O' : ∃ i, Try.prog.info? 41 = some i ∧ i.zero = some (.agg (arrv 27 (fun _ => 0))) ∧ i.size = 27 ∧ i.bytes = 216 := by
  have h : (Try.prog.info? 41).map (fun i => (i.zero, i.size, i.bytes)) = some (some (.agg (arrv 27 (fun _ => 0))), 27, 216) := by kernel_rfl
  cases e : Try.prog.info? 41 with
  | none => rw [e] at h; cases h
  | some i => rw [e] at h; simp at h; exact ⟨i, rfl, h.1, h.2.1, h.2.2⟩
theorem slc_src {w : World} {q : Option Addr} {n : Nat} {L : Nat → Int} (h : Slc w q n L) (hn : 0 < n) :
    ∃ a, q = some a ∧ ∀ j v, ((List.range n).map fun i => Value.int .i64 (L i))[j]? = some v → w.cell? (a.add j) = some v := by
  obtain ⟨b, o, rfl, _⟩ := h 0 hn
  refine ⟨⟨b, o, none⟩, rfl, fun j v hj => ?_⟩
  have hjn : j < n := by
    have := (List.getElem?_eq_some_iff.1 hj).1
    simpa using this
  obtain ⟨b', o', e, hc⟩ := h j hjn
  injection e with e
  injection e with e1 e2
  subst e1 e2
  rw [show ((List.range n).map fun i => Value.int .i64 (L i))[j]? = some (Value.int .i64 (L j)) from by simp [hjn]] at hj
  injection hj with hj
  rw [← hj]
  rw [Go.Addr.add_mid]; exact hc
theorem zeroCells27 (k : Nat) : Go.Builtin.zeroCells (arrv 27 (fun _ => 0)) k = arrv (27 * k) (fun _ => 0) := by
  unfold Go.Builtin.zeroCells
  rw [arrv_size]
  apply Array.ext_getElem?
  intro i
  by_cases hi : i < 27 * k
  · rw [arrv_get hi, Array.getElem?_map, Array.getElem?_range, if_pos (by omega)]
    have h27 : i % 27 < 27 := Nat.mod_lt _ (by omega)
    have := arrv_get (f := fun _ => (0 : Int)) h27
    simp only [Option.map_some]
    rw [getElem!_def, this]
  · rw [Array.getElem?_eq_none (by simp; omega), Array.getElem?_eq_none (by rw [arrv_size]; omega)]
theorem many_cells (n k : Nat) (O : Nat → Int) (hz : ∀ i, 27 * n ≤ i → O i = 0) : ([] : List Value).toArray ++ ((List.range (27 * n)).map fun i => Value.int .i64 (O i)).toArray ++ arrv (27 * k) (fun _ => 0) = arrv (27 * (n + k)) O := by
  apply Array.ext_getElem?
  intro i
  by_cases h1 : i < 27 * n
  · rw [Array.getElem?_append_left (by simp; omega), arrv_get (by omega)]
    simp [h1]
  · by_cases h2 : i < 27 * (n + k)
    · rw [Array.getElem?_append_right (by simp; omega), arrv_get h2, arrv_get (by simp; omega), hz i (by omega)]
    · rw [Array.getElem?_eq_none (by simp [arrv_size]; omega), Array.getElem?_eq_none (by rw [arrv_size]; omega)]
open Go in
theorem run_appObs (ty : TypeId) (w : World) (b : Addr) (q : Option Addr) (n cp : Nat) (O : Nat → Int) (hL : Slc w q (27 * n) O) (hz : ∀ i, 27 * n ≤ i → O i = 0) (hn : n ≤ 1000) :
    ∃ q' cap w', (Builtin.append_ #[27, 27] ty #[.slice (some b) 0 0, .slice q n cp]).run Try.prog w = .ok (.slice q' n cap) w' ∧ Below w.heap.size w w' ∧ ManyO w' q' n O := by
  obtain ⟨i, hi, hzr, hs, hb⟩ := info_O'
  have ht := Try.underlying27
  rcases Nat.eq_zero_or_pos n with h0 | h0
  · subst h0
    refine ⟨some b, 0, w, ?_, Below.refl _ _, fun h => absurd h (Nat.lt_irrefl _)⟩
    refine run_append_nothing w _ _ ty _ i ht hi (some b) 0 0 (Nat.le_refl _) _ ⟨.inl ⟨_, ht⟩, fun w' => ?_, ?_, ?_, by simp, fun u hu => by cases hu⟩
    · simp [Builtin.lenOf]
    · cases q <;> simp [Builtin.firstCells, loadCells, loadCellsFrom]
    · cases q <;> simp [Builtin.firstCells, loadCells, loadCellsFrom]
  · obtain ⟨a, rfl, ha⟩ := slc_src hL (by omega)
    have hcap : Builtin.nextslicecap (0 + n) 0 * i.bytes ≤ 281474976710656 := by
      have := nextslicecap_le (need := 0 + n) (old := 0) (by omega)
      rw [hb]; omega
    have hr := run_append_grow w _ ty _ i _ ht hi hzr b 0 0 [] (by simp) (fun j v hj => by cases hj) a n cp ((List.range (27 * n)).map fun i => Value.int .i64 (O i)) (by simp [hs]; omega) ha (by omega) (by omega) hcap
    rw [Nat.zero_add] at hr
    refine ⟨_, _, _, hr, ((Below.refl _ _).drew).alloc (Nat.le_refl _) _, fun _ => ⟨w.heap.size, n + (grownCap w n 0 41 - n), rfl, by omega, ?_⟩⟩
    have hd : w.drew.heap = w.heap := rfl
    unfold Blk
    have hh := heap_alloc_new w.drew (.cells (([] : List Value).toArray ++ ((List.range (27 * n)).map fun i => Value.int .i64 (O i)).toArray ++ Builtin.zeroCells (Value.agg (arrv 27 (fun _ => 0))).cells (grownCap w n 0 41 - n)) 41)
    refine Eq.trans hh ?_
    rw [show (Value.agg (arrv 27 (fun _ => 0))).cells = arrv 27 (fun _ => 0) from rfl, zeroCells27, many_cells n _ O hz]
open Go in
theorem wp_appAll_obs {o : Oper} {a : Act} {w : World} {K : Act → World → Prop} {Q : Exit → Act → World → Prop} (s x : Operand)
    (ho : o.op = .call { callee := .builtin .append, args := #[s, x], argTypes := #[27, 27] })
    (b : Addr) (q : Option Addr) (n cp : Nat) (O : Nat → Int) (hs : a.eval s = .slice (some b) 0 0) (hx : a.eval x = .slice q n cp) (hL : Slc w q (27 * n) O) (hz : ∀ i, 27 * n ≤ i → O i = 0) (hn : n ≤ 1000)
    (h : ∀ q' cap w', Below w.heap.size w w' → ManyO w' q' n O → K (a.put o.dst (.slice q' n cap)) w') : o.wp Try.prog a w K Q := by
  obtain ⟨q', cap, w', hr, h1, h2⟩ := run_appObs o.type w b q n cp O hL hz hn
  unfold Oper.wp execOp
  simp only [ho, resolve, invoke, builtin, Sem.run_bind, Sem.run_pure, Result.andThen_ok, List.map_toArray, List.map_cons, List.map_nil, hs, hx, hr]
  exact h q' cap w' h1 h2
theorem many_all (bc : Nat) (S P O : Nat → Int) (n : Nat) (hn : n ≤ 1000) (hO : ∀ i, -9223372036854775808 ≤ O i ∧ O i ≤ 9223372036854775807) (x : World) (k1 : x.cell? ⟨bc, 0, none⟩ = some (.bool false)) (k2 : x.frozen? ⟨bc, 0, none⟩ = false) (q : Option Addr) (cp : Nat) (hb : ManyO x q n O) :
    Calls Try.prog 6 #[.pointer (some ⟨bc, 0, none⟩), .agg (arrv 24 S), .agg (arrv 300 P), .slice q n cp] x fun e w' =>
      ∃ v, e = .returned (.tuple #[.agg (arrv 24 (alN S P O n).1), .agg (arrv 300 (alN S P O n).2), v]) ∧ Upd ⟨bc, 0, none⟩ (alH S P O n) x w' ∧ OwnR w' (x.heap.size + 1 + 1 + 1 + 1) v n (alT S P O) (alY O) (alV S P O) := by
  by_cases h0 : 0 < n
  · obtain ⟨g, m, rfl, hm, hB⟩ := hb h0
    refine (all_anyM ⟨bc, 0, none⟩ false S P O g n m cp x k1 k2 hn (fun _ => ⟨hm, hB⟩) hO _ (fun _ => rfl)).mono ?_
    rintro e w' ⟨v, h1, h2, h3⟩
    rw [Bool.false_or] at h2
    exact ⟨v, h1, h2, h3⟩
  · refine (all_anyM ⟨bc, 0, none⟩ false S P O 0 n n cp x k1 k2 hn (fun h => absurd h h0) hO q (fun h => absurd h h0)).mono ?_
    rintro e w' ⟨v, h1, h2, h3⟩
    rw [Bool.false_or] at h2
    exact ⟨v, h1, h2, h3⟩
end Go.Proofs.Ytpbgglkopfjagaa
