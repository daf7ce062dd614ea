/- Contracts of the program's functions and plain laws, part 12: they hold for all arguments. -/
import Derived.Test.YtiajjiphknlldaaGreatQ10
import Derived.Test.YtiajjiphknlldaaGreatQ05
import Derived.Test.YtiajjiphknlldaaGreatQ11
import Derived.Test.YtiajjiphknlldaaGreatQ03
import Derived.OpenShut
import Derived.ProofKit
import Derived.Carry
import Derived.Deep.MidRow
import Derived.Deep.Upon
import Derived.Test.YtiajjiphknlldaaGreatQ06
import Derived.Laws.Bits64b
import Derived.Test.YtiajjiphknlldaaGreatQ02
import Derived.Test.YtiajjiphknlldaaGreatProg
import Derived.Test.YtiajjiphknlldaaGreatQ01
import Derived.Outline
import Derived.BigRegion
import Derived.BigQuiet
import Derived.Deep.QuietTactic
import Derived.Deep.RegionHeld3
import Derived.Deep.Cut
import Derived.Deep.CutRange
import Derived.IntWalk
/- Plain laws of Keep and Add, without the walks of law 15. -/
namespace Go.Proofs.YtiajjiphknlldaaGreat
theorem good_parts {K : Nat → Int} (h : goodB K = true) : (∀ i, i < 24 → -(boxF i) ≤ K i ∧ K i ≤ boxF i) ∧ unitB K = true := by
  unfold goodB at h
  rw [Bool.and_eq_true] at h
  exact ⟨boxQ_iff.1 h.1, h.2⟩
theorem clampV_id {x M : Int} (h : -M ≤ x ∧ x ≤ M) : clampV x (-M) M = x ∧ clampH x (-M) M = false := by
  unfold clampV clampH; rw [if_neg (by omega), if_neg (by omega), if_neg (by omega)]; simp; omega
theorem addV_0 {a : Int} (h : -9007199254740992 ≤ a ∧ a ≤ 9007199254740992) : addV a 0 = a ∧ addH a 0 = false := by
  have e1 : satV a = a := satV_id (by omega) (by omega)
  have e0 : satV 0 = 0 := by decide
  unfold addV addH
  rw [e1, e0, Int.add_zero]
  refine ⟨e1, ?_⟩
  rw [satH_no (a := a) (by omega) (by omega)]; rfl
/-- Noughts added to what is good. -/
theorem add_zero {K : Nat → Int} (h : goodB K = true) : (∀ i, i < 24 → 4 ≤ i → add1F K (fun _ => 0) i = K i) ∧ add1H K (fun _ => 0) = false := by
  obtain ⟨h1, h2⟩ := good_parts h
  have hb : ∀ i, i < 24 → -9007199254740992 ≤ K i ∧ K i ≤ 9007199254740992 := fun i hi => by have := h1 i hi; have := boxF_bd i; omega
  have hs : ∀ i, i < 24 → sumA K (fun _ => 0) i = K i := fun i hi => (addV_0 (hb i hi)).1
  have hT : ∀ i, i < 24 → 4 ≤ i → turnd (sumA K (fun _ => 0)) (uniV (sumA K (fun _ => 0))) i = K i := fun i hi h4 => by unfold turnd; rw [if_neg (by omega), hs i hi]
  refine ⟨fun i hi h4 => ?_, ?_⟩
  · unfold add1F clmF
    rw [if_neg (by omega), hT i hi h4]
    exact (clampV_id (h1 i hi)).1
  · unfold add1H
    rw [orB_no fun i hi => (addV_0 (hb i hi)).2, unit_calm _ fun i hi => by rw [hs i (by omega)]; have := hb i (by omega); omega]
    simp only [Bool.false_or]
    refine orB_no fun i hi => ?_
    unfold clmP
    rw [hT (4 + i) (by omega) (by omega)]
    exact (clampV_id (h1 (4 + i) (by omega))).2
end Go.Proofs.YtiajjiphknlldaaGreat
/- What fuse.One makes is good; a number that was expected moves nothing. No program. -/
namespace Go.Proofs.YtiajjiphknlldaaGreat
set_option maxRecDepth 100000
end Go.Proofs.YtiajjiphknlldaaGreat
/- Behind 'x, y, z := fuse.One(..)': the three blocks its answer goes to; an observation built of its parts. -/
namespace Go.Proofs.YtiajjiphknlldaaGreat
open Go.RowKit
set_option maxRecDepth 100000
theorem one_made {w8 w9 : World} (S P : Nat → Int) (t : Bool) (y s : Int) (e : w9 = ((((((((w8.alloc (.cells #[.int .i64 0, .int .i64 0, .int .i64 0, .int .i64 0, .int .i64 0, .int .i64 0, .int .i64 0, .int .i64 0, .int .i64 0, .int .i64 0, .int .i64 0, .int .i64 0, .int .i64 0, .int .i64 0, .int .i64 0, .int .i64 0, .int .i64 0, .int .i64 0, .int .i64 0, .int .i64 0, .int .i64 0, .int .i64 0, .int .i64 0, .int .i64 0] 23)).alloc (.cells Tryz.zeroCells26 26)).alloc (.cells #[.bool false, .int .i64 0, .int .i64 0] 39)).setRow w8.heap.size (arrv 24 (S))).setRow (w8.heap.size + 1) (arrv 300 (P))).setCell ⟨w8.heap.size + 1 + 1, 0, none⟩ (.bool t)).setCell ⟨w8.heap.size + 1 + 1, 1, none⟩ (.int .i64 y)).setCell ⟨w8.heap.size + 1 + 1, 2, none⟩ (.int .i64 s))) :
    Blk w9 w8.heap.size 23 24 S ∧ Blk w9 (w8.heap.size + 1) 26 300 P ∧ Res w9 (w8.heap.size + 1 + 1) t y s ∧ Below w8.heap.size w8 w9 := by
  subst e
  have R8 := aw_t8 w8
  have R9 := aw_q8 w8 S
  have RA := (aw_r8 w8 S P).set3 t y s
  have B1 : Below w8.heap.size w8 (((w8.alloc (.cells #[.int .i64 0, .int .i64 0, .int .i64 0, .int .i64 0, .int .i64 0, .int .i64 0, .int .i64 0, .int .i64 0, .int .i64 0, .int .i64 0, .int .i64 0, .int .i64 0, .int .i64 0, .int .i64 0, .int .i64 0, .int .i64 0, .int .i64 0, .int .i64 0, .int .i64 0, .int .i64 0, .int .i64 0, .int .i64 0, .int .i64 0, .int .i64 0] 23)).alloc (.cells Tryz.zeroCells26 26)).alloc (.cells #[.bool false, .int .i64 0, .int .i64 0] 39)) := by (repeat (first | with_reducible exact Below.refl _ _ | with_reducible apply Below.drew | (with_reducible refine below_drewN ?_ _) | (with_reducible refine Below.alloc ?_ (by (try simp) <;> omega) _) | (with_reducible refine Below.setCell ?_ (by (try simp) <;> omega) _)))
  exact ⟨((((R8.setRow S).setRow_other _ (by omega)).other (by simp; omega) _).other (by simp; omega) _).other (by simp; omega) _, (((R9.setRow P).other (by simp) _).other (by simp) _).other (by simp) _, RA, ((((below_row (below_row B1 (Nat.le_refl _) _) (by omega) _).setCell (by simp; omega) _).setCell (by simp; omega) _).setCell (by simp; omega) _)⟩
end Go.Proofs.YtiajjiphknlldaaGreat
/- Arguments that are arrays of int64 (or structs of such): opened as numbers; a slice of int64 too. Of no one program. -/
namespace Go.Proofs.YtiajjiphknlldaaGreat
open Go.RowKit Go.ChangeShapes
def AllInt (cs : List Value) : Prop := ∀ v, v ∈ cs → ∃ z, v = .int .i64 z ∧ (Lit.int .i64 z).wf = true
section
variable {H : Type} {enc : TypeId × Value → H} {P : Program} {w : World} {base : Nat} {spare : Nat → Bool} {held : Bool}
/-- What reads as t is int64 numbers alone. -/
def Ints (enc : TypeId × Value → H) (P : Program) (w : World) (base : Nat) (spare : Nat → Bool) (held : Bool) (t : TypeId) : Prop :=
  ∀ fuel cs x, DataW.trod enc P w base spare held fuel t cs = some x → AllInt cs ∧ x.2 = []
theorem ints_int {t : TypeId} (hu : P.underlying t = some (.int .i64)) : Ints enc P w base spare held t := by
  intro fuel cs x h
  obtain ⟨n, h1, h2, h3⟩ := DataW.trod_int hu h
  subst h1
  refine ⟨fun v hv => ?_, ?_⟩
  · rw [List.mem_singleton] at hv; exact ⟨n, hv, h3⟩
  · rw [h2]
theorem ints_array {t e : TypeId} {n m : Nat} (hu : P.underlying t = some (.array n e)) (hc : P.cellsOf t = n * m) (hm : P.cellsOf e = m) (he : Ints enc P w base spare held e) : Ints enc P w base spare held t := by
  intro fuel cs x h
  obtain ⟨xs, k, rfl, rfl, hl, hx, hi⟩ := DataW.trod_array hu h
  rw [hc] at hl
  rw [hm] at hi
  refine ⟨fun v hv => ?_, ?_⟩
  · obtain ⟨q, hq, rfl⟩ := List.getElem_of_mem hv
    have hm0 : 0 < m := by
      rcases Nat.eq_zero_or_pos m with h0 | h0
      · subst h0; omega
      · exact h0
    have hqm : q / m < n := by rw [Nat.div_lt_iff_lt_mul hm0]; omega
    have hh := hi (q / m) hqm
    rw [List.getElem?_eq_getElem (by omega)] at hh
    refine (he _ _ _ hh).1 _ ?_
    rw [List.mem_iff_getElem?]
    refine ⟨q % m, ?_⟩
    rw [List.getElem?_take_of_lt (Nat.mod_lt _ hm0), List.getElem?_drop, Nat.mul_comm, Nat.div_add_mod]
    exact List.getElem?_eq_getElem hq
  · show xs.flatMap (·.2) = []
    rw [List.flatMap_eq_nil_iff]
    intro y hy
    obtain ⟨q, hq, rfl⟩ := List.getElem_of_mem hy
    have hh := hi q (by omega)
    rw [List.getElem?_eq_getElem hq] at hh
    exact (he _ _ _ hh).2
/-- A struct of two: U's numbers, then D's. -/
theorem ints_struct2 {t : TypeId} {f0 f1 : Field} {a b : Nat} (hu : P.underlying t = some (.struct #[f0, f1])) (hc : P.cellsOf t = a + b) (o0 : f0.offset = 0) (o1 : f1.offset = a) (c0 : P.cellsOf f0.type = a) (c1 : P.cellsOf f1.type = b)
    (h0 : Ints enc P w base spare held f0.type) (h1 : Ints enc P w base spare held f1.type) : Ints enc P w base spare held t := by
  intro fuel cs x h
  obtain ⟨xs, k, rfl, rfl, hl, hx, hi⟩ := DataW.trod_struct hu h
  rw [hc] at hl
  have hx2 : xs.length = 2 := hx
  have g0 := hi 0 f0 rfl
  have g1 := hi 1 f1 rfl
  rw [List.getElem?_eq_getElem (by omega)] at g0 g1
  have r0 := h0 _ _ _ g0
  have r1 := h1 _ _ _ g1
  refine ⟨fun v hv => ?_, ?_⟩
  · obtain ⟨q, hq, rfl⟩ := List.getElem_of_mem hv
    by_cases hqa : q < a
    · refine r0.1 _ ?_
      rw [List.mem_iff_getElem?]
      refine ⟨q, ?_⟩
      rw [c0, o0, List.drop_zero, List.getElem?_take_of_lt hqa]
      exact List.getElem?_eq_getElem hq
    · refine r1.1 _ ?_
      rw [List.mem_iff_getElem?]
      refine ⟨q - a, ?_⟩
      rw [c1, o1, List.getElem?_take_of_lt (by omega), List.getElem?_drop, show a + (q - a) = q by omega]
      exact List.getElem?_eq_getElem hq
  · show xs.flatMap (·.2) = []
    rw [List.flatMap_eq_nil_iff]
    intro y hy
    obtain ⟨q, hq, rfl⟩ := List.getElem_of_mem hy
    obtain rfl | rfl : q = 0 ∨ q = 1 := by omega
    · exact r0.2
    · exact r1.2
/-- A struct whose fields cover its cells. -/
theorem ints_struct {t : TypeId} {fs : Array Field} {n : Nat} (hu : P.underlying t = some (.struct fs)) (hc : P.cellsOf t = n)
    (hcov : ∀ q, q < n → ∃ (j : Nat) (f : Field), fs[j]? = some f ∧ f.offset ≤ q ∧ q < f.offset + P.cellsOf f.type)
    (hI : ∀ (j : Nat) (f : Field), fs[j]? = some f → Ints enc P w base spare held f.type) : Ints enc P w base spare held t := by
  intro fuel cs x h
  obtain ⟨xs, k, rfl, rfl, hl, hx, hi⟩ := DataW.trod_struct hu h
  rw [hc] at hl
  refine ⟨fun v hv => ?_, ?_⟩
  · obtain ⟨q, hq, rfl⟩ := List.getElem_of_mem hv
    obtain ⟨j, f, hj, h1, h2⟩ := hcov q (by omega)
    have hjl : j < xs.length := by rw [hx]; exact (Array.getElem?_eq_some_iff.1 hj).1
    have g := hi j f hj
    rw [List.getElem?_eq_getElem hjl] at g
    refine (hI j f hj _ _ _ g).1 _ ?_
    rw [List.mem_iff_getElem?]
    refine ⟨q - f.offset, ?_⟩
    rw [List.getElem?_take_of_lt (by omega), List.getElem?_drop, show f.offset + (q - f.offset) = q by omega]
    exact List.getElem?_eq_getElem hq
  · show xs.flatMap (·.2) = []
    rw [List.flatMap_eq_nil_iff]
    intro y hy
    obtain ⟨q, hq, rfl⟩ := List.getElem_of_mem hy
    have hq2 : q < fs.size := by rw [← hx]; exact hq
    have g := hi q fs[q] (Array.getElem?_eq_getElem hq2)
    rw [List.getElem?_eq_getElem hq] at g
    exact (hI q _ (Array.getElem?_eq_getElem hq2) _ _ _ g).2
/-- A value of such a type: an aggregate of numbers. -/
theorem open_vec {r : Reach} {b0 n : Nat} {t : TypeId} {v : Value} {d : DataW H} {ps : List MemPlace} (hI : Ints enc P w base spare held t) (hc : P.cellsOf t = n)
    (hu : ∃ u, P.underlying t = some u ∧ (match u with | .struct _ | .array _ _ => true | _ => false) = true) (hval : Value.okWide P w r b0 t v) (hd : DataW.Trod enc P w base spare held t v d ps) :
    ∃ f : Nat → Int, v = .agg (arrv n f) ∧ (∀ i, -9223372036854775808 ≤ f i ∧ f i ≤ 9223372036854775807) ∧ ps = [] := by
  obtain ⟨u, hu1, hu2⟩ := hu
  have hv : ∃ cs, v = .agg cs ∧ cs.size = P.cellsOf t := by
    unfold Value.okWide at hval
    rw [hu1] at hval
    cases u <;> simp at hu2 hval <;> (obtain ⟨cs, h1, h2, _⟩ := hval; exact ⟨cs, h1, h2⟩)
  obtain ⟨cs, rfl, hs⟩ := hv
  rw [hc] at hs
  obtain ⟨fuel, hf⟩ := hd
  obtain ⟨hA, hp⟩ := hI _ _ _ hf
  have hA' : ∀ i, i < n → ∃ z, cs[i]? = some (.int .i64 z) ∧ (Lit.int .i64 z).wf = true := by
    intro i hi
    have hm : cs[i]'(by omega) ∈ (Value.agg cs).cells.toList := by simp [Value.cells]
    obtain ⟨z, hz, hw⟩ := hA _ hm
    exact ⟨z, by rw [Array.getElem?_eq_getElem (by omega), hz], hw⟩
  refine ⟨fun i => if h : i < n then Classical.choose (hA' i h) else 0, ?_, fun i => ?_, hp⟩
  · congr 1
    apply Array.ext_getElem?
    intro i
    by_cases hi : i < n
    · rw [arrv_get hi]
      simp only [dif_pos hi]
      exact (Classical.choose_spec (hA' i hi)).1
    · rw [Array.getElem?_eq_none (by omega), Array.getElem?_eq_none (by rw [arrv_size]; omega)]
  · by_cases hi : i < n
    · simp only [dif_pos hi]
      exact Go.bounds_i64 (Classical.choose_spec (hA' i hi)).2
    · simp only [dif_neg hi]; omega
end
end Go.Proofs.YtiajjiphknlldaaGreat
/- The join of a law: arguments that read before the call read behind it, if nothing that was there has turned. -/
namespace Go.Proofs.YtiajjiphknlldaaGreat
open Go.ChangeShapes Go.WideShapes Go.ChangeAt Go.RowKit
theorem trodAll_stays {H : Type} {enc : TypeId × Value → H} {P : Program} (hl : laidOutB P = true) {W W' : World} (hb : Below W.heap.size W W') {sp : Nat → Bool} : ∀ {ts : List TypeId} {vs : List Value} {ds : List (DataW H)} {p : List MemPlace},
    (ts.all fun t => P.readableRec t && decide (t < P.types.size)) = true → DataW.TrodAll enc P W 0 (fun _ => true) true ts vs ds p → (∀ x ∈ p, x.block < W.heap.size) → (∀ x ∈ p, sp x.block = true) → DataW.TrodAll enc P W' 0 sp true ts vs ds p
  | [], [], [], _, _, h, _, _ => h
  | t :: ts, v :: vs, d :: ds, p, ht, h, hlt, hsp => by
    obtain ⟨q, r, h1, h2, rfl⟩ := h
    rw [List.all_cons, Bool.and_eq_true, Bool.and_eq_true, decide_eq_true_eq] at ht
    exact ⟨q, r, WideElems.Trod_stays hl ht.1.1 ht.1.2 h1 (fun x hx => hb.same (hlt x (List.mem_append_left _ hx))) (fun x hx => hsp x (List.mem_append_left _ hx)),
      trodAll_stays hl hb ht.2 h2 (fun x hx => hlt x (List.mem_append_right _ hx)) (fun x hx => hsp x (List.mem_append_right _ hx)), rfl⟩
  | [], _ :: _, _, _, _, h, _, _ => by cases ‹List (DataW H)› <;> exact h.elim
  | [], [], _ :: _, _, _, h, _, _ => h.elim
  | _ :: _, [], _, _, _, h, _, _ => by cases ‹List (DataW H)› <;> exact h.elim
  | _ :: _, _ :: _, [], _, _, h, _, _ => h.elim
/-- What a law owes behind the call: it answers true, and nothing that was there has turned. -/
theorem law_post {H : Type} {enc : TypeId × Value → H} {P : Program} {f : Func} {s : ChangeSpec} {apart fresh handsOn again : Bool} {W W' : World} {args : Array Value} {ds gs : List (DataW H)} {before : List MemPlace} {tb : TypeId}
    (hW : DataW.Whole enc P f.params.toList s.vars apart W args.toList ds gs before) (hv : s.vars = []) (hfn : s.fn H ds = { results := [.lit (.bool true)], args := ds })
    (hu : P.underlying tb = some .bool) (hr : f.resultTypes = #[tb]) (hl : laidOutB P = true) (hts : (f.params.toList.all fun t => P.readableRec t && decide (t < P.types.size)) = true) (hb : Below W.heap.size W W') :
    s.post enc P f apart fresh handsOn again W args (.bool true) W' := by
  have hlt : ∀ x ∈ before, x.block < W.heap.size := fun x hx => hW.lt x hx
  have hW0 := hW
  obtain ⟨p, q, hA, hV, rfl, hfz, hnd⟩ := hW
  rw [hv] at hV
  obtain ⟨rfl, rfl⟩ := trodVars_none hV
  rw [List.append_nil] at hlt
  have hargs : ∀ sp : Nat → Bool, (∀ x ∈ p, sp x.block = true) → DataW.TrodAll enc P W' 0 sp true f.params.toList args.toList ds p := fun sp hsp => trodAll_stays hl hb hts hA hlt hsp
  have hvars : ∀ sp : Nat → Bool, DataW.TrodVars enc P W' sp s.vars ([] : List (DataW H)) [] := fun sp => by rw [hv]; exact rfl
  have hres : ∀ (b : Nat) (sp : Nat → Bool) (hd : Bool), DataW.TrodAll enc P W' b sp hd f.resultTypes.toList ((Value.bool true).resultList f.resultTypes.size) [.lit (.bool true)] [] := fun b sp hd => by
    rw [hr]; exact trodAll_mk1 (shut_bool hu _)
  have hold : ∀ x ∈ p, (fun b => decide (b < W.heap.size)) x.block = true := fun x hx => by simpa using hlt x hx
  have hfn' : s.fn H (ds ++ []) = { results := [.lit (.bool true)], args := ds } := by rw [List.append_nil]; exact hfn
  refine ⟨ds, [], p ++ [], [], p, [], hW0, ?_, ?_, ?_, World.keptBut_mono (fun x hx => ⟨hx, ?_⟩) (hb.frame (· ∈ p ++ [])), fun _ => ?_⟩
  · rw [hfn']; exact hres _ _ _
  · rw [hfn']; exact hargs _ hold
  · rw [hfn']; exact hvars _
  · rw [List.append_nil] at hx; exact Or.inr (.inl hx)
  · refine ⟨ok_one hr rfl (okWide_bool_mk hu _), _, _, ([] ++ p) ++ [], ⟨[] ++ p, [], trodAll_append (hargs _ (fun _ _ => rfl)) (hres _ _ _), hvars _, rfl, ?_, ?_⟩, ?_⟩
    · intro b off hx
      have hin : MemPlace.cell b off ∈ p := by simpa using hx
      rw [hb.frozen (p := ⟨b, off, none⟩) (hlt _ hin)]
      exact hfz b off (by simpa using hin)
    · intro ha
      simpa using hnd ha
    · intro x hx _
      simpa using hx
section
variable {H : Type} {enc : TypeId × Value → H} {w : World} {base : Nat} {spare : Nat → Bool} {held : Bool}
theorem cells_of_size {P : Program} {t : TypeId} {n : Nat} (h : (P.info? t).map (·.size) = some n) : P.cellsOf t = n := by
  unfold Program.cellsOf
  cases e : P.info? t with
  | none => rw [e] at h; cases h
  | some i => rw [e] at h; simpa using h
theorem cells_i64 : Tryz.prog.cellsOf 2 = 1 := cells_of_size (by kernel_rfl)
theorem cells_col : Tryz.prog.cellsOf 22 = 24 := cells_of_size (by kernel_rfl)
theorem cells_int : Tryz.prog.cellsOf 3 = 1 := cells_of_size (by kernel_rfl)
theorem cells_row : Tryz.prog.cellsOf 27 = 24 := cells_of_size (by kernel_rfl)
theorem cells_u : Tryz.prog.cellsOf 24 = 276 := cells_of_size (by kernel_rfl)
theorem cells_cov : Tryz.prog.cellsOf 26 = 300 := cells_of_size (by kernel_rfl)
theorem ints_i64 : Ints enc Tryz.prog w base spare held 2 := ints_int Tryz.underlying2
theorem ints_col : Ints enc Tryz.prog w base spare held 22 := ints_array (n := 24) (m := 1) Tryz.underlying22 cells_col cells_i64 ints_i64
theorem ints_row : Ints enc Tryz.prog w base spare held 27 := ints_array (n := 24) (m := 1) Tryz.underlying27 cells_row cells_i64 ints_i64
theorem ints_u : Ints enc Tryz.prog w base spare held 24 := ints_array (n := 276) (m := 1) Tryz.underlying24 cells_u cells_i64 ints_i64
theorem ints_cov : Ints enc Tryz.prog w base spare held 26 := ints_struct2 (a := 276) (b := 24) Tryz.underlying26 cells_cov rfl rfl cells_u cells_col ints_u ints_col
theorem cells_st : Tryz.prog.cellsOf 23 = 24 := cells_of_size (by kernel_rfl)
theorem ints_st : Ints enc Tryz.prog w base spare held 23 := ints_array (n := 24) (m := 1) Tryz.underlying23 cells_st cells_i64 ints_i64
theorem cells_obs : Tryz.prog.cellsOf 29 = 27 := cells_of_size (by kernel_rfl)
theorem ints_int' : Ints enc Tryz.prog w base spare held 3 := ints_int Tryz.underlying3
set_option maxRecDepth 100000 in
theorem ints_obs : Ints enc Tryz.prog w base spare held 29 := by
  refine ints_struct (n := 27) Tryz.underlying29 cells_obs (fun q hq => ?_) (fun j f hj => ?_)
  · by_cases h0 : q < 24
    · exact ⟨0, _, rfl, Nat.zero_le _, by show q < 0 + Tryz.prog.cellsOf 27; rw [cells_row]; omega⟩
    · obtain rfl | rfl | rfl : q = 24 ∨ q = 25 ∨ q = 26 := by omega
      · exact ⟨1, _, rfl, Nat.le_refl _, by show 24 < 24 + Tryz.prog.cellsOf 2; rw [cells_i64]; omega⟩
      · exact ⟨2, _, rfl, Nat.le_refl _, by show 25 < 25 + Tryz.prog.cellsOf 2; rw [cells_i64]; omega⟩
      · exact ⟨3, _, rfl, Nat.le_refl _, by show 26 < 26 + Tryz.prog.cellsOf 3; rw [cells_int]; omega⟩
  · match j, hj with
    | 0, hj => cases hj; exact ints_row
    | 1, hj => cases hj; exact ints_i64
    | 2, hj => cases hj; exact ints_i64
    | 3, hj => cases hj; exact ints_int'
    | n + 4, hj => rw [Array.getElem?_eq_none (by show 4 ≤ n + 4; omega)] at hj; cases hj
theorem own_knob : ownKnob Tryz.prog.godebug = none := by kernel_rfl
theorem laid_out : laidOutB Tryz.prog = true := by kernel_rfl
end
end Go.Proofs.YtiajjiphknlldaaGreat
/- What FuseMany needs beside the contracts: a whole row loaded from wherever its cells lie; an empty slice of observations, and a whole one appended to it; '!=' of results. -/
namespace Go.Proofs.YtiajjiphknlldaaGreat
open Go.RowKit
set_option maxRecDepth 100000
open Go in
/-- A result loaded from wherever its cells lie. -/
theorem run_load_res {o : Oper} {ev : Operand → Value} {w : World} (x : Operand) (ho : o.op = .load 39 x) (b off : Nat) (hx : ev x = .pointer (some ⟨b, off, none⟩)) (t : Bool) (y s : Int)
    (h0 : w.cell? ⟨b, off, none⟩ = some (.bool t)) (h1 : w.cell? ⟨b, off + 1, none⟩ = some (.int .i64 y)) (h2 : w.cell? ⟨b, off + 2, none⟩ = some (.int .i64 s)) :
    (execOp ev o).run Tryz.prog w = .ok (.value (.agg (res3 t y s))) w := by
  have hi : (Tryz.prog.info? 39).map (·.size) = some 3 := by kernel_rfl
  have h := run_loadVar_mid (P := Tryz.prog) w b off 39 (res3 t y s).toList _ (fun j v hv => by
    have hj : j < 3 := (List.getElem?_eq_some_iff.1 hv).1
    rcases (show j = 0 ∨ j = 1 ∨ j = 2 by omega) with h | h | h
    · rw [h] at hv ⊢; simp [res3] at hv; rw [← hv]; exact h0
    · rw [h] at hv ⊢; simp [res3] at hv; rw [← hv]; exact h1
    · rw [h] at hv ⊢; simp [res3] at hv; rw [← hv]; exact h2) Tryz.underlying39 rfl (by rw [hi]; rfl)
  rw [Array.toArray_toList] at h
  unfold execOp
  simp [ho, hx, Instr.loadAt, Instr.sureAddr, Sem.run_bind, h]
open Go in
theorem run_equalIn_res (d : Nat) (w : World) (t : Bool) (a b : Int) : (Op.equalIn (d + 3) 39 (.agg (res3 t a b)) (.agg (res3 t a b))).run Tryz.prog w = .ok true w := by
  have hf := fieldsOf_of Tryz.underlying39
  rw [show d + 3 = (d + 2) + 1 from rfl, run_equalIn_struct w (d + 2) _ _ _ (by rw [hf]; exact Tryz.underlying39) (by kernel_rfl), hf]
  have p0 : (part 4 (res3 t a b) 0).run Tryz.prog w = .ok (.bool t) w := by kernel_rfl
  have p1 : (part 2 (res3 t a b) 1).run Tryz.prog w = .ok (.int .i64 a) w := by kernel_rfl
  have p2 : (part 2 (res3 t a b) 2).run Tryz.prog w = .ok (.int .i64 b) w := by kernel_rfl
  have q0 : (Op.equalIn (d + 2) 4 (.bool t) (.bool t)).run Tryz.prog w = .ok true w := by
    rw [show d + 2 = (d + 1) + 1 from rfl, run_equalIn_bool' w (d + 1) _ t t Tryz.underlying4]; simp
  have q1 : ∀ z : Int, (Op.equalIn (d + 2) 2 (.int .i64 z) (.int .i64 z)).run Tryz.prog w = .ok true w := fun z => by
    rw [show d + 2 = (d + 1) + 1 from rfl, run_equalIn_int w (d + 1) _ .i64 .i64 z z Tryz.underlying2]; simp
  have z : (Op.eqFields (d + 2) (res3 t a b) (res3 t a b) []).run Tryz.prog w = .ok true w := by simp [Op.eqFields]
  have e2 := run_eqFields_cons (f := ⟨"S", 2, 2, false, "", "", 16⟩) (by decide) p2 p2 (q1 b) z
  have e1 := run_eqFields_cons (f := ⟨"Y", 2, 1, false, "", "", 8⟩) (by decide) p1 p1 (q1 a) e2
  have e0 := run_eqFields_cons (f := ⟨"Taken", 4, 0, false, "", "", 0⟩) (by decide) p0 p0 q0 e1
  exact e0
theorem run_equal_res (w : World) (t : Bool) (a b : Int) : (Go.Op.equal 39 (.agg (res3 t a b)) (.agg (res3 t a b))).run Tryz.prog w = .ok true w := run_equalIn_res 9997 w t a b
/-- A slice of n observations in a block of its own, from its head on. -/
def ManyO (w : World) (q : Option Addr) (n : Nat) (O : Nat → Int) : Prop := 0 < n → ∃ g m, q = some ⟨g, 0, none⟩ ∧ n ≤ m ∧ Blk w g 29 (27 * m) O
theorem ManyO.below {w w' : World} {q : Option Addr} {n : Nat} {O : Nat → Int} (h : ManyO w q n O) (b : Below w.heap.size w w') : ManyO w' q n O := fun h0 => by
  obtain ⟨g, m, e, hm, hb⟩ := h h0
  exact ⟨g, m, e, hm, hb.below b⟩
end Go.Proofs.YtiajjiphknlldaaGreat
/- Numbers in base 2^31: what is carried; the order, digit by digit. No program. -/
namespace Go.Proofs.YtiajjiphknlldaaGreat
def dgL (N : Nat → Nat) (n i : Nat) : Nat := if i < n then N i else 0
def dgP (N : Nat → Nat) (n : Nat) : Nat → Nat | 0 => 0 | i + 1 => dgP N n i + dgL N n i * 2 ^ (31 * i)
def dgC (N : Nat → Nat) (n i : Nat) : Nat := dgP N n i / 2 ^ (31 * i)
def digF (V i : Nat) : Nat := V / 2 ^ (31 * i) % 2147483648
theorem pow31 (i : Nat) : 2 ^ (31 * (i + 1)) = 2 ^ (31 * i) * 2147483648 := by rw [Nat.mul_add, Nat.pow_add]
theorem dgC_0 (N : Nat → Nat) (n : Nat) : dgC N n 0 = 0 := by simp [dgC, dgP]
theorem dgC_succ (N : Nat → Nat) (n i : Nat) : dgC N n (i + 1) = (dgL N n i + dgC N n i) / 2147483648 := by
  unfold dgC
  rw [pow31, ← Nat.div_div_eq_div_mul]
  simp only [dgP]
  rw [Nat.add_mul_div_right _ _ (Nat.two_pow_pos _), Nat.add_comm]
theorem dgP_more (N : Nat → Nat) (n i : Nat) : ∀ m, i ≤ m → ∃ W, dgP N n m = dgP N n i + W * 2 ^ (31 * i)
  | 0, h => ⟨0, by rw [show i = 0 by omega]; simp⟩
  | m + 1, h => by
    by_cases e : i = m + 1
    · subst e; exact ⟨0, by simp⟩
    · obtain ⟨W, hW⟩ := dgP_more N n i m (by omega)
      refine ⟨W + dgL N n m * 2 ^ (31 * (m - i)), ?_⟩
      simp only [dgP]
      rw [hW, Nat.add_mul, Nat.mul_assoc (dgL N n m), ← Nat.pow_add, show 31 * (m - i) + 31 * i = 31 * m by omega, Nat.add_assoc]
theorem dig_at (N : Nat → Nat) (n i m : Nat) (h : i < m) : digF (dgP N n m) i = (dgL N n i + dgC N n i) % 2147483648 := by
  obtain ⟨W, hW⟩ := dgP_more N n (i + 1) m h
  unfold digF dgC
  rw [hW]
  simp only [dgP]
  rw [pow31, show W * (2 ^ (31 * i) * 2147483648) = (W * 2147483648) * 2 ^ (31 * i) by rw [Nat.mul_comm (2 ^ (31 * i)), Nat.mul_assoc], Nat.add_mul_div_right _ _ (Nat.two_pow_pos _), Nat.add_mul_div_right _ _ (Nat.two_pow_pos _)]
  omega
theorem dgP_end (N : Nat → Nat) (n : Nat) : ∀ m, n ≤ m → dgP N n m = dgP N n n
  | 0, h => by rw [show n = 0 by omega]
  | m + 1, h => by
    by_cases e : n = m + 1
    · subst e; rfl
    · simp only [dgP]
      rw [dgP_end N n m (by omega), show dgL N n m = 0 from by unfold dgL; rw [if_neg (by omega)], Nat.zero_mul, Nat.add_zero]
theorem dgC_bd {N : Nat → Nat} {n : Nat} (hN : ∀ i, i < n → N i < 9223372036854775808) : ∀ i, dgC N n i < 8589934592
  | 0 => by rw [dgC_0]; decide
  | i + 1 => by
    have h := dgC_bd hN i
    rw [dgC_succ]
    have hl : dgL N n i < 9223372036854775808 := by
      unfold dgL
      split
      · exact hN i (by assumption)
      · decide
    omega
theorem dig_zero {V i : Nat} (h : V < 2 ^ (31 * i)) : digF V i = 0 := by unfold digF; rw [Nat.div_eq_of_lt h]
/-- The order by the highest digit that differs. -/
theorem dig_lt {V R i : Nat} (h : V / 2 ^ (31 * (i + 1)) = R / 2 ^ (31 * (i + 1))) (hd : digF V i < digF R i) : V < R := by
  unfold digF at hd
  rw [pow31, ← Nat.div_div_eq_div_mul, ← Nat.div_div_eq_div_mul] at h
  have : V / 2 ^ (31 * i) < R / 2 ^ (31 * i) := by omega
  rcases Nat.lt_or_ge V R with h2 | h2
  · exact h2
  · have := Nat.div_le_div_right (c := 2 ^ (31 * i)) h2; omega
theorem dig_eq {V R i : Nat} (h : V / 2 ^ (31 * (i + 1)) = R / 2 ^ (31 * (i + 1))) (hd : digF V i = digF R i) : V / 2 ^ (31 * i) = R / 2 ^ (31 * i) := by
  unfold digF at hd
  rw [pow31, ← Nat.div_div_eq_div_mul, ← Nat.div_div_eq_div_mul] at h
  omega
end Go.Proofs.YtiajjiphknlldaaGreat
/- Contract of the reference's digits. -/
namespace Go.Proofs.YtiajjiphknlldaaGreat
open Go.RowKit
open Go (bits)
set_option maxRecDepth 100000
theorem and31 (x : Nat) (hx : x < 9223372036854775808) : bits .and .i64 (x : Int) 2147483647 = ((x % 2147483648 : Nat) : Int) := by
  have hb : x &&& 2147483647 < 2 ^ 63 := Nat.and_lt_two_pow _ (by decide)
  have h1 : (BitVec.ofInt 64 (x : Int)).toNat = x := by
    rw [BitVec.ofInt_natCast, BitVec.toNat_ofNat]; exact Nat.mod_eq_of_lt (by omega)
  have h2 : (BitVec.ofInt 64 (2147483647 : Int)).toNat = 2147483647 := by decide
  show IntKind.i64.wrap ((BitVec.ofInt 64 (x : Int) &&& BitVec.ofInt 64 (2147483647 : Int)).toNat : Int) = _
  rw [BitVec.toNat_and, h1, h2]
  rw [show x &&& 2147483647 = x % 2147483648 from by rw [show (2147483647 : Nat) = 2 ^ 31 - 1 from rfl, Nat.and_two_pow_sub_one_eq_mod]]
  exact IntWalk.i64_in _ (by omega)
structure DgR (N : Nat → Nat) (n k : Nat) (v : Value) (w wr : World) : Prop where
  below : Below w.heap.size w wr
  own : Own wr w.heap.size 2 v k (fun i => ((digF (dgP N n n) i : Nat) : Int))
set_option maxHeartbeats 8000000 in
theorem rdigits_any (N : Nat → Nat) (p : Option Addr) (n cp : Nat) (w : World) (hn : n ≤ 10) (hN : ∀ i, i < n → N i < 9223372036854775808) (hL : Slc w p n (fun i => ((N i : Nat) : Int))) :
    Calls Tryz.prog 51 #[.slice p n cp] w fun e w' => ∃ v, e = .returned v ∧ Own w' w.heap.size 2 v (n + 3) (fun i => ((digF (dgP N n n) i : Nat) : Int)) ∧ Below w.heap.size w w' := by
  have HL := Lib.hid hL
  have HN := Lib.hid hN
  clear hL hN
  go_enter Tryz.func51, Tryz.ntmps51
  go_wp2_with fail
  go_loopw [3, 4, 5] (fun v3 v4 v5 wr => ∃ (k : Nat) (v : Value), k ≤ n + 3 ∧ v = v3 ∧ v4 = .int .i64 (dgC N n k : Nat) ∧ v5 = .int .i64 k ∧ Hid (DgR N n k v w wr)) (fun _ _ v5 _ => n + 3 - (intOf v5).toNat)
  case atStart => exact ⟨0, _, by omega, rfl, by rw [dgC_0]; rfl, rfl, Lib.hid ⟨Below.refl _ _, Own.nil _ _ _ _⟩⟩
  case round =>
    obtain ⟨k, v, hk, hv, rfl, rfl, R⟩ := hrel
    subst hv
    have n3 : (n : Int) ≤ 10 := by omega
    have n0 : (0 : Int) ≤ (n : Int) := Int.natCast_nonneg _
    by_cases hlt : k < n + 3
    · have d1 : decide ((k : Int) < (n : Int) + 3) = true := by simp; omega
      have hcb := dgC_bd HN.out k
      have hcs := dgC_succ N n k
      have hdg := dig_at N n k (n + 3) hlt
      rw [dgP_end N n (n + 3) (by omega)] at hdg
      obtain ⟨c, hc⟩ : ∃ c, dgC N n k = c := ⟨_, rfl⟩
      rw [hc] at hcb hcs hdg ⊢
      have k0 : (0 : Int) ≤ (k : Int) := Int.natCast_nonneg _
      have k1 : (k : Int) < 13 := by omega
      by_cases hkn : k < n
      · have d2 : decide (k < n) = true := by simpa using hkn
        have d3 : decide ((k : Int) < (n : Int)) = true := by simp; omega
        obtain ⟨pb, po, rfl, hcell⟩ := HL.out k hkn
        have hc1 : wr.cell? ⟨pb, po + k, none⟩ = some (.int .i64 (N k : Nat)) := (R.out.below.cell (World.block_lt_of_cell? _ _ hcell)).trans hcell
        have hl := HN.out k hkn
        have hdl : dgL N n k = N k := by unfold dgL; rw [if_pos hkn]
        rw [hdl] at hcs hdg
        obtain ⟨l, hl2⟩ : ∃ l, N k = l := ⟨_, rfl⟩
        rw [hl2] at hc1 hl hcs hdg
        have f1 := and31 l hl
        have f2 := and31 c (by omega)
        obtain ⟨a1, ha1⟩ : ∃ x, l % 2147483648 = x := ⟨_, rfl⟩
        obtain ⟨a2, ha2⟩ : ∃ x, c % 2147483648 = x := ⟨_, rfl⟩
        rw [ha1] at f1
        rw [ha2] at f2
        obtain ⟨t, ht⟩ : ∃ x, a1 + a2 = x := ⟨_, rfl⟩
        have hti : (a1 : Int) + (a2 : Int) = (t : Int) := by omega
        have t0 : (0 : Int) ≤ (t : Int) := Int.natCast_nonneg _
        have t1 : (t : Int) < 4294967296 := by omega
        have f3 := and31 t (by omega)
        obtain ⟨d, hd⟩ : ∃ x, t % 2147483648 = x := ⟨_, rfl⟩
        rw [hd] at f3
        obtain ⟨b1, hb1⟩ : ∃ x, l / 2147483648 = x := ⟨_, rfl⟩
        obtain ⟨b2, hb2⟩ : ∃ x, c / 2147483648 = x := ⟨_, rfl⟩
        obtain ⟨b3, hb3⟩ : ∃ x, t / 2147483648 = x := ⟨_, rfl⟩
        obtain ⟨cn, hcn⟩ : ∃ x, b1 + b2 + b3 = x := ⟨_, rfl⟩
        have ED := Lib.hid (show digF (dgP N n n) k = d ∧ dgC N n (k + 1) = cn by
          rw [hdg, hcs]; omega)
        have i1 : (l : Int) / 2147483648 = (b1 : Int) := by omega
        have i2 : (c : Int) / 2147483648 = (b2 : Int) := by omega
        have i3 : (t : Int) / 2147483648 = (b3 : Int) := by omega
        have u1 : (b1 : Int) < 4294967296 := by omega
        have u2 : (b2 : Int) < 4 := by omega
        have u3 : (b3 : Int) < 4 := by omega
        have u4 : (0 : Int) ≤ (b1 : Int) := Int.natCast_nonneg _
        have u5 : (0 : Int) ≤ (b2 : Int) := Int.natCast_nonneg _
        have u6 : (0 : Int) ≤ (b3 : Int) := Int.natCast_nonneg _
        have hci : (b1 : Int) + (b2 : Int) + (b3 : Int) = (cn : Int) := by omega
        have HCI := Lib.hid hci
        have hkx : k ≤ 13 := by omega
        clear hcell hl2 hdl hl hcb hcs hdg ha1 ha2 ht hd hb1 hb2 hb3 hcn hci
        go_upto_region 9 with fail
        rw [HCI.out]
        clear i1 i2 i3 u1 u2 u3 u4 u5 u6 f1 f2 t0 t1 hti HCI
        have O1 := Lib.hid R.out.own
        have B1 := Lib.hid R.out.below
        have hws := R.out.below.size
        clear R hc1
        go_wp2_with (refine wpList_app1 rfl (.tmp 37) (.tmp 40) rfl w.heap.size rfl (O1.out.alloc _) wr.heap.size 1 (d : Int) rfl (by simp [go_sem]) (by omega) (by simp; omega) (wr.heap.size + 1) (by simp) ?_; intro g1 cp1 w3 hO1 hg1 hat1 hlt1; have HO1 := Lib.hid hO1; have HG1 := Lib.hid hg1; clear hO1 hg1 hat1)
        go_roundw
        case rel =>
          refine ⟨k + 1, _, by omega, rfl, by rw [ED.out.2], by go_num, Lib.hid ⟨?_, HO1.out.congr (snoc_fun (n := k) (L := fun i => ((digF (dgP N n n) i : Nat) : Int)) (by rw [ED.out.1]))⟩⟩
          exact below_grown (B1.out.alloc hws _) HG1.out (fun j hj => (ownBlock_lt O1.out hj).1) (by simp; omega)
        case measure => simp [intOf]; omega
      · have d2 : decide (k < n) = false := by simpa using hkn
        have d3 : decide ((k : Int) < (n : Int)) = false := by simp; omega
        have hdl : dgL N n k = 0 := by unfold dgL; rw [if_neg hkn]
        rw [hdl, Nat.zero_add] at hcs hdg
        have f3 := and31 c (by omega)
        obtain ⟨d, hd⟩ : ∃ x, c % 2147483648 = x := ⟨_, rfl⟩
        obtain ⟨cn, hcn⟩ : ∃ x, c / 2147483648 = x := ⟨_, rfl⟩
        rw [hd] at f3
        have ED := Lib.hid (show digF (dgP N n n) k = d ∧ dgC N n (k + 1) = cn by rw [hdg, hcs]; omega)
        have i1 : (c : Int) / 2147483648 = (cn : Int) := by omega
        have O1 := Lib.hid R.out.own
        have B1 := Lib.hid R.out.below
        have hws := R.out.below.size
        have hkx : k ≤ 13 := by omega
        clear hdl hcs hdg hd hcn hcb R
        go_wp2_with (refine wpList_app1 rfl (.tmp 42) (.tmp 45) rfl w.heap.size rfl (O1.out.alloc _) wr.heap.size 1 (d : Int) rfl (by simp [go_sem]) (by omega) (by simp; omega) (wr.heap.size + 1) (by simp) ?_; intro g1 cp1 w3 hO1 hg1 hat1 hlt1; have HO1 := Lib.hid hO1; have HG1 := Lib.hid hg1; clear hO1 hg1 hat1)
        go_roundw
        case rel =>
          refine ⟨k + 1, _, by omega, rfl, by rw [ED.out.2], by go_num, Lib.hid ⟨?_, HO1.out.congr (snoc_fun (n := k) (L := fun i => ((digF (dgP N n n) i : Nat) : Int)) (by rw [ED.out.1]))⟩⟩
          exact below_grown (B1.out.alloc hws _) HG1.out (fun j hj => (ownBlock_lt O1.out hj).1) (by simp; omega)
        case measure => simp [intOf]; omega
    · obtain rfl : k = n + 3 := by omega
      have d1 : decide (((n + 3 : Nat) : Int) < (n : Int) + 3) = false := by simp
      have HR := Lib.hid R.out
      clear R
      go_wp2_with fail
      go_ret
      exact ⟨v, rfl, HR.out.own, HR.out.below⟩
end Go.Proofs.YtiajjiphknlldaaGreat
/- The reference's arithmetic by sign and size, against the program's by numbers. No program. -/
namespace Go.Proofs.YtiajjiphknlldaaGreat
/-- A number by its sign and its size. -/
def sv (neg : Bool) (M : Nat) : Int := if neg = true then -(M : Int) else (M : Int)
theorem sv_0 (neg : Bool) : sv neg 0 = 0 := by unfold sv; split <;> simp
theorem rdiv_sv (neg : Bool) (M d : Nat) (hd : 0 < d) : rdiv (sv neg M) (d : Int) = sv neg ((2 * M + d) / (2 * d)) := by
  have h0 : (2 * 0 + d) / (2 * d) = 0 := Nat.div_eq_of_lt (by omega)
  by_cases hM : M = 0
  · subst hM
    rw [sv_0, h0, sv_0]
    unfold rdiv
    rw [if_pos (by simp; exact hd)]
    simp only [Int.natAbs_zero, Int.natAbs_natCast]
    rw [h0]; rfl
  · cases neg with
    | false =>
      unfold sv rdiv
      simp only [Bool.false_eq_true, if_false, Int.natAbs_natCast]
      rw [if_pos (by simp; exact hd)]
    | true =>
      unfold sv rdiv
      simp only [if_true, Int.natAbs_neg, Int.natAbs_natCast]
      rw [if_neg]
      have h1 : ¬ (0 : Int) ≤ -(M : Int) := by omega
      have h2 : (0 : Int) < (d : Int) := by omega
      intro h
      exact h1 (h.mpr h2)
/-- 'shifted'. -/
def shM (M s : Nat) : Nat := if s = 0 then M else (M + 2 ^ (s - 1)) / 2 ^ s
theorem rsh_sv (neg : Bool) (M s : Nat) : rsh (sv neg M) s = sv neg (shM M s) := by
  have hp : 0 < 2 ^ s := Nat.pos_of_ne_zero (by simp)
  unfold rsh
  rw [show ((2 : Int) ^ s) = ((2 ^ s : Nat) : Int) by simp, rdiv_sv neg M _ hp]
  congr 1
  unfold shM
  by_cases h : s = 0
  · subst h; rw [if_pos rfl]; simp; omega
  · rw [if_neg h]
    obtain ⟨t, rfl⟩ : ∃ t, s = t + 1 := ⟨s - 1, by omega⟩
    rw [Nat.add_sub_cancel, Nat.pow_succ]
    have hq : 0 < 2 ^ t := Nat.pos_of_ne_zero (by simp)
    rw [show 2 * M + 2 ^ t * 2 = 2 * (M + 2 ^ t) by omega, Nat.mul_div_mul_left _ _ (by omega)]
/-- 'divided'. -/
def dvM (M d : Nat) : Nat := if M % d ≥ d - M % d then M / d + 1 else M / d
theorem rdiv_dv (neg : Bool) (M d : Nat) (hd : 0 < d) : rdiv (sv neg M) (d : Int) = sv neg (dvM M d) := by
  rw [rdiv_sv neg M d hd]
  congr 1
  have hr := Nat.mod_lt M hd
  have hm := Nat.div_add_mod M d
  obtain ⟨q, hq⟩ : ∃ q, M / d = q := ⟨_, rfl⟩
  obtain ⟨r, hr'⟩ : ∃ r, M % d = r := ⟨_, rfl⟩
  unfold dvM
  rw [hq, hr'] at hm ⊢
  rw [hr'] at hr
  rw [← hm, show 2 * (d * q + r) + d = (2 * r + d) + 2 * d * q by rw [Nat.mul_add, Nat.mul_assoc]; omega, Nat.add_mul_div_left _ _ (by omega)]
  by_cases h : r ≥ d - r
  · rw [if_pos h, Nat.div_eq_of_lt_le (k := 1) (by omega) (by omega)]; omega
  · rw [if_neg h, Nat.div_eq_of_lt (by omega)]; omega
/-- 'end'. -/
def enM (M : Nat) : Nat := if M > 1152921504606846976 then 1152921504606846976 else M
theorem satV_sv (neg : Bool) (M : Nat) : satV (sv neg M) = sv neg (enM M) ∧ satH (sv neg M) = decide (M > 1152921504606846976) := by
  unfold satV satH clampV clampH enM sv
  cases neg
  · simp only [Bool.false_eq_true, if_false]
    constructor
    · split; omega; split; omega; split <;> split <;> omega
    · rw [Bool.eq_iff_iff]; simp; omega
  · simp only [if_true]
    constructor
    · split; omega; split; split <;> omega; split; omega; split <;> omega
    · rw [Bool.eq_iff_iff]; simp; omega
end Go.Proofs.YtiajjiphknlldaaGreat
/- Contracts of the reference's scalars (1): product, size, mul, less. -/
namespace Go.Proofs.YtiajjiphknlldaaGreat
open Go.RowKit
set_option maxRecDepth 100000
theorem rsize_any (a : Int) (w : World) (a0 : -1152921504606846976 ≤ a) (a1 : a ≤ 1152921504606846976) :
    Calls Tryz.prog 83 #[.int .i64 a] w fun e w' => e = .returned (.int .u64 (a.natAbs : Int)) ∧ w = w' := by
  by_cases h : a < 0
  · have d : decide (a < 0) = true := by simpa using h
    go_enter Tryz.func83, Tryz.ntmps83
    go_wp2
    go_ret
    exact ⟨retI (by (try simp only [IntKind.wrap_u64]); omega), rfl⟩
  · have d : decide (a < 0) = false := by simpa using h
    go_enter Tryz.func83, Tryz.ntmps83
    go_wp2
    go_ret
    exact ⟨retI (by (try simp only [IntKind.wrap_u64]); omega), rfl⟩
theorem and_mask (x : Int) (x0 : 0 ≤ x) (x1 : x < 18446744073709551616) : bits .and .u64 x 4294967295 = x % 4294967296 := by
  obtain ⟨n, rfl⟩ := Int.eq_ofNat_of_zero_le x0
  rw [show (4294967295 : Int) = ((4294967295 : Nat) : Int) from rfl, bits_and_u64_nat n 4294967295 (by omega) (by decide)]
  rw [show (4294967295 : Nat) = 2 ^ 32 - 1 from rfl, Nat.and_two_pow_sub_one_eq_mod]
  omega
theorem or_low (z x : Int) (z0 : 0 ≤ z) (z1 : z < 4294967296) (x0 : 0 ≤ x) (x1 : x < 4294967296) : bits .or .u64 (z * 4294967296) x = z * 4294967296 + x := by
  obtain ⟨n, rfl⟩ := Int.eq_ofNat_of_zero_le z0
  obtain ⟨m, rfl⟩ := Int.eq_ofNat_of_zero_le x0
  rw [show ((n : Int) * 4294967296) = ((n * 4294967296 : Nat) : Int) by omega, bits_or_u64_nat _ _ (by omega) (by omega)]
  have h := Nat.two_pow_add_eq_or_of_lt (i := 32) (b := m) (by omega) n
  rw [show n * 4294967296 = 2 ^ 32 * n by omega, ← h]
  omega
theorem prod_atoms (al bl : Int) (h1 : 0 ≤ al) (h2 : al < 4294967296) (h3 : 0 ≤ bl) (h4 : bl < 4294967296) : 0 ≤ al * bl ∧ al * bl ≤ 18446744065119617025 := by
  refine ⟨Int.mul_nonneg h1 h3, ?_⟩
  have : al * bl ≤ 4294967295 * 4294967295 := Int.mul_le_mul (by omega) (by omega) h3 (by decide)
  omega
theorem rproduct_any (a b : Int) (w : World) (a0 : 0 ≤ a) (a1 : a < 18446744073709551616) (b0 : 0 ≤ b) (b1 : b < 18446744073709551616) :
    Calls Tryz.prog 98 #[.int .u64 a, .int .u64 b] w fun e w' => e = .returned (.tuple #[.int .u64 (hi64 (a * b)), .int .u64 (lo64 (a * b))]) ∧ w = w' := by
  have fa := and_mask a a0 a1
  have fb := and_mask b b0 b1
  obtain ⟨al, hal⟩ : ∃ x, a % 4294967296 = x := ⟨_, rfl⟩
  obtain ⟨ah, hah⟩ : ∃ x, a / 4294967296 = x := ⟨_, rfl⟩
  obtain ⟨bl, hbl⟩ : ∃ x, b % 4294967296 = x := ⟨_, rfl⟩
  obtain ⟨bh, hbh⟩ : ∃ x, b / 4294967296 = x := ⟨_, rfl⟩
  rw [hal] at fa
  rw [hbl] at fb
  have ba : 0 ≤ al ∧ al < 4294967296 ∧ 0 ≤ ah ∧ ah < 4294967296 ∧ a = ah * 4294967296 + al := by omega
  have bb : 0 ≤ bl ∧ bl < 4294967296 ∧ 0 ≤ bh ∧ bh < 4294967296 ∧ b = bh * 4294967296 + bl := by omega
  have q1 := prod_atoms al bl ba.1 ba.2.1 bb.1 bb.2.1
  have q2 := prod_atoms ah bl ba.2.2.1 ba.2.2.2.1 bb.1 bb.2.1
  have q3 := prod_atoms al bh ba.1 ba.2.1 bb.2.2.1 bb.2.2.2.1
  have q4 := prod_atoms ah bh ba.2.2.1 ba.2.2.2.1 bb.2.2.1 bb.2.2.2.1
  have hab : a * b = (ah * bh) * 18446744073709551616 + (ah * bl + al * bh) * 4294967296 + al * bl := by
    rw [ba.2.2.2.2, bb.2.2.2.2]; grind
  have Hab := Lib.hid hab
  obtain ⟨p1, h1⟩ : ∃ x, al * bl = x := ⟨_, rfl⟩
  obtain ⟨p2, h2⟩ : ∃ x, ah * bl = x := ⟨_, rfl⟩
  obtain ⟨p3, h3⟩ : ∃ x, al * bh = x := ⟨_, rfl⟩
  obtain ⟨p4, h4⟩ : ∃ x, ah * bh = x := ⟨_, rfl⟩
  rw [h1] at q1
  rw [h2] at q2
  rw [h3] at q3
  rw [h4] at q4
  rw [h1, h2, h3, h4] at Hab
  have e1 : IntKind.u64.wrap (al * bl) = p1 := by rw [h1, IntKind.wrap_u64]; omega
  have e2 : IntKind.u64.wrap (ah * bl) = p2 := by rw [h2, IntKind.wrap_u64]; omega
  have e3 : IntKind.u64.wrap (al * bh) = p3 := by rw [h3, IntKind.wrap_u64]; omega
  have e4 : IntKind.u64.wrap (ah * bh) = p4 := by rw [h4, IntKind.wrap_u64]; omega
  have e5 := and_mask p1 (by omega) (by omega)
  obtain ⟨xl, hxl⟩ : ∃ x, p1 % 4294967296 = x := ⟨_, rfl⟩
  obtain ⟨xh, hxh⟩ : ∃ x, p1 / 4294967296 = x := ⟨_, rfl⟩
  rw [hxl] at e5
  obtain ⟨y, hy⟩ : ∃ x, p2 + xh = x := ⟨_, rfl⟩
  have e6 : IntKind.u64.wrap (p2 + xh) = y := by rw [hy, IntKind.wrap_u64]; omega
  have e7 := and_mask y (by omega) (by omega)
  obtain ⟨yl, hyl⟩ : ∃ x, y % 4294967296 = x := ⟨_, rfl⟩
  obtain ⟨yh, hyh⟩ : ∃ x, y / 4294967296 = x := ⟨_, rfl⟩
  rw [hyl] at e7
  obtain ⟨z, hz⟩ : ∃ x, p3 + yl = x := ⟨_, rfl⟩
  have e8 : IntKind.u64.wrap (p3 + yl) = z := by rw [hz, IntKind.wrap_u64]; omega
  obtain ⟨zl, hzl⟩ : ∃ x, z % 4294967296 = x := ⟨_, rfl⟩
  obtain ⟨zh, hzh⟩ : ∃ x, z / 4294967296 = x := ⟨_, rfl⟩
  have e9 : IntKind.u64.wrap (z * 4294967296) = zl * 4294967296 := by rw [IntKind.wrap_u64]; omega
  have e10 := or_low zl xl (by omega) (by omega) (by omega) (by omega)
  obtain ⟨l, hl⟩ : ∃ x, zl * 4294967296 + xl = x := ⟨_, rfl⟩
  rw [hl] at e10
  obtain ⟨u, hu⟩ : ∃ x, p4 + yh = x := ⟨_, rfl⟩
  obtain ⟨v, hv⟩ : ∃ x, u + zh = x := ⟨_, rfl⟩
  have q5 : 0 ≤ a * b ∧ a * b < 340282366920938463463374607431768211456 := by
    refine ⟨Int.mul_nonneg a0 b0, ?_⟩
    have : a * b ≤ 18446744073709551615 * 18446744073709551615 := Int.mul_le_mul (by omega) (by omega) b0 (by decide)
    omega
  have hab2 := Hab.out
  have HV : hi64 (a * b) = v ∧ lo64 (a * b) = l := by
    unfold hi64 lo64
    generalize a * b = T at *
    omega
  have e11 : IntKind.u64.wrap (p4 + yh) = u := by rw [hu, IntKind.wrap_u64]; omega
  have e12 : IntKind.u64.wrap (u + zh) = v := by
    have := HV.1
    unfold hi64 at this
    rw [hv, IntKind.wrap_u64]; omega
  have HV := Lib.hid HV
  clear Hab hab hab2 q1 q2 q3 q4 q5 h1 h2 h3 h4 hal hbl ba bb hxl hyl hzl hy hz hl hu hv a0 a1 b0 b1
  go_enter Tryz.func98, Tryz.ntmps98
  go_wp2
  go_ret2
  refine ⟨?_, rfl⟩
  rw [HV.out.1, HV.out.2]
  rfl
end Go.Proofs.YtiajjiphknlldaaGreat
/- Contracts of the reference's scalars (2): mul, less, add, end. -/
namespace Go.Proofs.YtiajjiphknlldaaGreat
open Go.RowKit
set_option maxRecDepth 100000
/-- Is the product below nought? -/
def sg2 (a b : Int) : Bool := if a < 0 then (if b < 0 then false else true) else (if b < 0 then true else false)
theorem rmul_any (a b P : Int) (w : World) (a0 : -1152921504606846976 ≤ a) (a1 : a ≤ 1152921504606846976) (b0 : -1152921504606846976 ≤ b) (b1 : b ≤ 1152921504606846976) (hP : (a.natAbs : Int) * b.natAbs = P) :
    Calls Tryz.prog 80 #[.int .i64 a, .int .i64 b] w fun e w' => e = .returned (.agg #[.int .u64 (hi64 P), .int .u64 (lo64 P), .bool (sg2 a b)]) ∧ Below w.heap.size w w' := by
  have SA := Lib.hid (fun w => rsize_any a w a0 a1)
  have SB := Lib.hid (fun w => rsize_any b w b0 b1)
  have PR := Lib.hid (fun w => rproduct_any (a.natAbs : Int) (b.natAbs : Int) w (by omega) (by omega) (by omega) (by omega))
  have HP := Lib.hid hP
  clear hP
  by_cases ha : a < 0 <;> by_cases hb : b < 0
  all_goals
    have hs := Lib.hid (show sg2 a b = _ by unfold sg2; first | rw [if_pos ha, if_pos hb] | rw [if_pos ha, if_neg hb] | rw [if_neg ha, if_pos hb] | rw [if_neg ha, if_neg hb])
    have d1 := ha
    go_enter Tryz.func80, Tryz.ntmps80
    go_wp2_with fail
    refine (SA.out _).mono ?_; rintro e w' ⟨rfl, rfl⟩
    go_wp2_with fail
    refine (SB.out _).mono ?_; rintro e w' ⟨rfl, rfl⟩
    go_wp2_with fail
    refine (PR.out _).mono ?_; rintro e w' ⟨rfl, rfl⟩
    rw [HP.out]
    go_wp2_with fail
    simp [bodyPost, results, Tryz.results80, go_sem]
    refine ⟨?_, by (repeat (first | with_reducible exact Below.refl _ _ | with_reducible apply Below.drew | (with_reducible refine below_drewN ?_ _) | (with_reducible refine Below.alloc ?_ (by (try simp) <;> omega) _) | (with_reducible refine Below.setCell ?_ (by (try simp) <;> omega) _)))⟩
    rw [hs.out]
    first | done | (cases h1 : decide (a < 0) <;> cases h2 : decide (b < 0) <;> simp_all <;> omega)
theorem rless_walk (x y u v : Int) (m n : Bool) (w : World) (r : Bool) (hr : (decide (x < u) || ((x == u) && decide (y < v))) = r) :
    Calls Tryz.prog 101 #[.agg #[.int .u64 x, .int .u64 y, .bool m], .agg #[.int .u64 u, .int .u64 v, .bool n]] w fun e w' =>
      e = .returned (.bool r) ∧ Below w.heap.size w w' := by
  by_cases h1 : x < u
  · have d1 : decide (x < u) = true := by simpa using h1
    rw [d1, Bool.true_or] at hr
    subst hr
    go_enter Tryz.func101, Tryz.ntmps101
    go_wp2_with fail
    go_ret
    refine ⟨rfl, ?_⟩
    (repeat (first | with_reducible exact Below.refl _ _ | with_reducible apply Below.drew | (with_reducible refine below_drewN ?_ _) | (with_reducible refine Below.alloc ?_ (by (try simp) <;> omega) _) | (with_reducible refine Below.setCell ?_ (by (try simp) <;> omega) _)))
  · have d1 : decide (x < u) = false := by simpa using h1
    by_cases h2 : x = u
    · subst h2
      by_cases h3 : y < v
      · have d3 : decide (y < v) = true := by simpa using h3
        rw [d1, d3, show (x == x) = true by simp] at hr
        subst hr
        go_enter Tryz.func101, Tryz.ntmps101
        go_wp2_with fail
        go_ret
        refine ⟨rfl, ?_⟩
        (repeat (first | with_reducible exact Below.refl _ _ | with_reducible apply Below.drew | (with_reducible refine below_drewN ?_ _) | (with_reducible refine Below.alloc ?_ (by (try simp) <;> omega) _) | (with_reducible refine Below.setCell ?_ (by (try simp) <;> omega) _)))
      · have d3 : decide (y < v) = false := by simpa using h3
        rw [d1, d3, show (x == x) = true by simp] at hr
        subst hr
        go_enter Tryz.func101, Tryz.ntmps101
        go_wp2_with fail
        go_ret
        refine ⟨rfl, ?_⟩
        (repeat (first | with_reducible exact Below.refl _ _ | with_reducible apply Below.drew | (with_reducible refine below_drewN ?_ _) | (with_reducible refine Below.alloc ?_ (by (try simp) <;> omega) _) | (with_reducible refine Below.setCell ?_ (by (try simp) <;> omega) _)))
    · have d2 : (x == u) = false := by simpa using h2
      rw [d1, d2] at hr
      subst hr
      go_enter Tryz.func101, Tryz.ntmps101
      go_wp2_with fail
      go_ret
      refine ⟨rfl, ?_⟩
      (repeat (first | with_reducible exact Below.refl _ _ | with_reducible apply Below.drew | (with_reducible refine below_drewN ?_ _) | (with_reducible refine Below.alloc ?_ (by (try simp) <;> omega) _) | (with_reducible refine Below.setCell ?_ (by (try simp) <;> omega) _)))
theorem rless_any (M N : Int) (m n : Bool) (w : World) :
    Calls Tryz.prog 101 #[.agg #[.int .u64 (hi64 M), .int .u64 (lo64 M), .bool m], .agg #[.int .u64 (hi64 N), .int .u64 (lo64 N), .bool n]] w fun e w' =>
      e = .returned (.bool (decide (M < N))) ∧ Below w.heap.size w w' :=
  rless_walk _ _ _ _ m n w _ (by rw [Bool.eq_iff_iff]; simp; unfold hi64 lo64; omega)
theorem radd_same (M N S : Int) (m : Bool) (w : World) (m0 : 0 ≤ M) (n0 : 0 ≤ N) (hS : M + N = S) (s1 : S < 340282366920938463463374607431768211456) :
    Calls Tryz.prog 96 #[.agg #[.int .u64 (hi64 M), .int .u64 (lo64 M), .bool m], .agg #[.int .u64 (hi64 N), .int .u64 (lo64 N), .bool m]] w fun e w' =>
      e = .returned (.agg #[.int .u64 (hi64 S), .int .u64 (lo64 S), .bool m]) ∧ Below w.heap.size w w' := by
  have e1 : IntKind.u64.wrap (lo64 M + lo64 N) = lo64 S := by rw [IntKind.wrap_u64]; unfold lo64; omega
  obtain ⟨u, hu⟩ : ∃ u, hi64 M + hi64 N = u := ⟨_, rfl⟩
  have e2 : IntKind.u64.wrap (hi64 M + hi64 N) = u := by rw [← hu, IntKind.wrap_u64]; unfold hi64; omega
  by_cases hc : lo64 S < lo64 M
  · have e3 : IntKind.u64.wrap (u + 1) = hi64 S := by rw [← hu, IntKind.wrap_u64]; unfold hi64 lo64 at *; omega
    have d1 : decide (lo64 S < lo64 M) = true := by simpa using hc
    clear hu hS hc
    cases m
    all_goals
      go_enter Tryz.func96, Tryz.ntmps96
      go_wp2_with fail
      simp [bodyPost, results, Tryz.results96, go_sem]
      (repeat (first | with_reducible exact Below.refl _ _ | with_reducible apply Below.drew | (with_reducible refine below_drewN ?_ _) | (with_reducible refine Below.alloc ?_ (by (try simp) <;> omega) _) | (with_reducible refine Below.setCell ?_ (by (try simp) <;> omega) _)))
  · have e3 : u = hi64 S := by rw [← hu]; unfold hi64 lo64 at *; omega
    have d1 : decide (lo64 S < lo64 M) = false := by simpa using hc
    have E3 := Lib.hid e3
    clear hu hS hc e3
    cases m
    all_goals
      go_enter Tryz.func96, Tryz.ntmps96
      go_wp2_with fail
      simp [bodyPost, results, Tryz.results96, go_sem]
      exact ⟨E3.out, by (repeat (first | with_reducible exact Below.refl _ _ | with_reducible apply Below.drew | (with_reducible refine below_drewN ?_ _) | (with_reducible refine Below.alloc ?_ (by (try simp) <;> omega) _) | (with_reducible refine Below.setCell ?_ (by (try simp) <;> omega) _)))⟩
end Go.Proofs.YtiajjiphknlldaaGreat
/- Contracts of the reference's scalars (3): add, where the signs part. -/
namespace Go.Proofs.YtiajjiphknlldaaGreat
open Go.RowKit
set_option maxRecDepth 100000
/-- Block b holds a number by its size and sign. -/
def Wid (w : World) (b : Nat) (M : Int) (m : Bool) : Prop := w.heap[b]? = some (.cells #[.int .u64 (hi64 M), .int .u64 (lo64 M), .bool m] 137 (0, 0))
theorem Wid.c {w : World} {b : Nat} {M : Int} {m : Bool} (h : Wid w b M m) : (w.cell? ⟨b, 0, none⟩ = some (.int .u64 (hi64 M)) ∧ w.cell? ⟨b, 1, none⟩ = some (.int .u64 (lo64 M)) ∧ w.cell? ⟨b, 2, none⟩ = some (.bool m)) ∧
    w.frozen? ⟨b, 0, none⟩ = false ∧ w.frozen? ⟨b, 1, none⟩ = false ∧ w.frozen? ⟨b, 2, none⟩ = false :=
  ⟨⟨by rw [cell_of_row w b 0 _ _ _ h]; rfl, by rw [cell_of_row w b 1 _ _ _ h]; rfl, by rw [cell_of_row w b 2 _ _ _ h]; rfl⟩, frozen_of_row w b 0 _ _ h, frozen_of_row w b 1 _ _ h, frozen_of_row w b 2 _ _ h⟩
theorem Wid.lt {w : World} {b : Nat} {M : Int} {m : Bool} (h : Wid w b M m) : b < w.heap.size := World.block_lt_of_cell? w _ h.c.1.1
theorem Wid.below {w w' : World} {b : Nat} {M : Int} {m : Bool} (h : Wid w b M m) (hb : Below w.heap.size w w') : Wid w' b M m := (hb.block b h.lt).trans h
theorem Wid.alloc {w : World} {b : Nat} {M : Int} {m : Bool} (h : Wid w b M m) (o : Obj) : Wid (w.alloc o) b M m := h.below ((Below.refl w.heap.size w).alloc (Nat.le_refl _) o)
theorem Wid.new (w : World) (M : Int) (m : Bool) : Wid (w.alloc (.cells #[.int .u64 (hi64 M), .int .u64 (lo64 M), .bool m] 137)) w.heap.size M m := heap_alloc_new w _
theorem Wid.other {w : World} {b : Nat} {M : Int} {m : Bool} (h : Wid w b M m) {a : Addr} (ha : b ≠ a.block) (v : Value) : Wid (w.setCell a v) b M m := (heap_setCell_other w a b v ha).trans h
theorem Wid.set {w : World} {b : Nat} {M : Int} {m : Bool} (h : Wid w b M m) (N : Int) (n : Bool) : Wid (((w.setCell ⟨b, 0, none⟩ (.int .u64 (hi64 N))).setCell ⟨b, 1, none⟩ (.int .u64 (lo64 N))).setCell ⟨b, 2, none⟩ (.bool n)) b N n := by
  have h1 := heap_setCell_same w b 0 _ _ (.int .u64 (hi64 N)) h
  have h2 := heap_setCell_same _ b 1 _ _ (.int .u64 (lo64 N)) h1
  exact heap_setCell_same _ b 2 _ _ (.bool n) h2
/-- The difference of sizes, borrowed. -/
theorem sub_parts (M N S : Int) (hNM : ¬ M < N) (hN : 0 ≤ N) (hM : M < 340282366920938463463374607431768211456) (hS : M - N = S) :
    IntKind.u64.wrap (lo64 M - lo64 N) = lo64 S ∧ (lo64 M < lo64 N → IntKind.u64.wrap (IntKind.u64.wrap (hi64 M - hi64 N) - 1) = hi64 S) ∧ (¬ lo64 M < lo64 N → IntKind.u64.wrap (hi64 M - hi64 N) = hi64 S) := by
  simp only [IntKind.wrap_u64]
  unfold hi64 lo64
  refine ⟨by omega, fun h => by omega, fun h => by omega⟩
theorem radd_gt (M N S : Int) (m n : Bool) (w : World) (hmn : (m == n) = false) (n0 : 0 ≤ N) (hNM : ¬ M < N) (hM : M < 340282366920938463463374607431768211456) (hS : M - N = S) :
    Calls Tryz.prog 96 #[.agg #[.int .u64 (hi64 M), .int .u64 (lo64 M), .bool m], .agg #[.int .u64 (hi64 N), .int .u64 (lo64 N), .bool n]] w fun e w' =>
      e = .returned (.agg #[.int .u64 (hi64 S), .int .u64 (lo64 S), .bool m]) ∧ Below w.heap.size w w' := by
  have d0 : decide (M < N) = false := by simpa using hNM
  have LS := fun w => rless_any M N m n w
  rw [d0] at LS
  have LS := Lib.hid LS
  obtain ⟨e1, e2, e3⟩ := sub_parts M N S hNM n0 hM hS
  have W0 : Hid (Wid (((w.alloc (.cells #[.int .u64 (hi64 M), .int .u64 (lo64 M), .bool m] 137)).alloc (.cells #[.int .u64 (hi64 N), .int .u64 (lo64 N), .bool n] 137)).alloc (.cells #[.int .u64 0, .int .u64 0, .bool false] 137)) w.heap.size M m ∧
      Wid (((w.alloc (.cells #[.int .u64 (hi64 M), .int .u64 (lo64 M), .bool m] 137)).alloc (.cells #[.int .u64 (hi64 N), .int .u64 (lo64 N), .bool n] 137)).alloc (.cells #[.int .u64 0, .int .u64 0, .bool false] 137)) (w.heap.size + 1) N n ∧
      Wid (((w.alloc (.cells #[.int .u64 (hi64 M), .int .u64 (lo64 M), .bool m] 137)).alloc (.cells #[.int .u64 (hi64 N), .int .u64 (lo64 N), .bool n] 137)).alloc (.cells #[.int .u64 0, .int .u64 0, .bool false] 137)) (w.heap.size + 1 + 1) 0 false ∧
      Below w.heap.size w (((w.alloc (.cells #[.int .u64 (hi64 M), .int .u64 (lo64 M), .bool m] 137)).alloc (.cells #[.int .u64 (hi64 N), .int .u64 (lo64 N), .bool n] 137)).alloc (.cells #[.int .u64 0, .int .u64 0, .bool false] 137))) := by
    refine Lib.hid ⟨((Wid.new w M m).alloc _).alloc _, ?_, ?_, by (repeat (first | with_reducible exact Below.refl _ _ | with_reducible apply Below.drew | (with_reducible refine below_drewN ?_ _) | (with_reducible refine Below.alloc ?_ (by (try simp) <;> omega) _) | (with_reducible refine Below.setCell ?_ (by (try simp) <;> omega) _)))⟩
    · have h := (Wid.new (w.alloc (.cells #[.int .u64 (hi64 M), .int .u64 (lo64 M), .bool m] 137)) N n).alloc (.cells #[.int .u64 0, .int .u64 0, .bool false] 137)
      rwa [show (w.alloc (.cells #[.int .u64 (hi64 M), .int .u64 (lo64 M), .bool m] 137)).heap.size = w.heap.size + 1 from by simp] at h
    · have h := Wid.new ((w.alloc (.cells #[.int .u64 (hi64 M), .int .u64 (lo64 M), .bool m] 137)).alloc (.cells #[.int .u64 (hi64 N), .int .u64 (lo64 N), .bool n] 137)) 0 false
      rwa [show ((w.alloc (.cells #[.int .u64 (hi64 M), .int .u64 (lo64 M), .bool m] 137)).alloc (.cells #[.int .u64 (hi64 N), .int .u64 (lo64 N), .bool n] 137)).heap.size = w.heap.size + 1 + 1 from by simp] at h
  go_enter Tryz.func96, Tryz.ntmps96
  go_upto_region 1 with fail
  generalize ((w.alloc (.cells #[.int .u64 (hi64 M), .int .u64 (lo64 M), .bool m] 137)).alloc (.cells #[.int .u64 (hi64 N), .int .u64 (lo64 N), .bool n] 137)).alloc (.cells #[.int .u64 0, .int .u64 0, .bool false] 137) = V0 at *
  obtain ⟨⟨a0, a1, a2⟩, _⟩ := W0.out.1.c
  obtain ⟨⟨b0, b1, b2⟩, _⟩ := W0.out.2.1.c
  go_wp2_with fail
  refine (LS.out _).mono ?_; rintro e w1 ⟨rfl, hb1⟩
  have W1 := Lib.hid (And.intro (W0.out.1.below hb1) (And.intro (W0.out.2.1.below hb1) (And.intro (W0.out.2.2.1.below hb1) (Below.after W0.out.2.2.2 hb1))))
  clear hb1 a0 a1 a2 b0 b1 b2 W0 LS hmn
  obtain ⟨⟨a0, a1, a2⟩, _⟩ := W1.out.1.c
  obtain ⟨⟨b0, b1, b2⟩, _⟩ := W1.out.2.1.c
  obtain ⟨⟨r0, r1, r2⟩, f0, f1, f2⟩ := W1.out.2.2.1.c
  have R := Lib.hid (W1.out.2.2.1.set S m)
  have hz : w.heap.size + 1 + 1 < w1.heap.size := W1.out.2.2.1.lt
  by_cases hc : lo64 M < lo64 N
  · have d1 : decide (lo64 M < lo64 N) = true := by simpa using hc
    have e4 := e2 hc
    clear e2 e3 hc d0 hNM hM hS n0
    go_wp2_with fail
    refine bodyPost_ret (v := .agg #[.int .u64 (hi64 S), .int .u64 (lo64 S), .bool m]) (by simp [results, Tryz.results96, go_sem, r0, r1, r2, hz]) rfl ⟨rfl, ?_⟩
    exact ((W1.out.2.2.2.setCell (by simp; omega) _).setCell (by simp; omega) _).setCell (by simp; omega) _
  · have d1 : decide (lo64 M < lo64 N) = false := by simpa using hc
    have e4 := e3 (by omega)
    clear e2 e3 hc d0 hNM hM hS n0
    go_wp2_with fail
    refine bodyPost_ret (v := .agg #[.int .u64 (hi64 S), .int .u64 (lo64 S), .bool m]) (by simp [results, Tryz.results96, go_sem, r0, r1, r2, hz]) rfl ⟨rfl, ?_⟩
    exact ((W1.out.2.2.2.setCell (by simp; omega) _).setCell (by simp; omega) _).setCell (by simp; omega) _
set_option maxHeartbeats 1000000 in
theorem radd_lt (M N S : Int) (m n : Bool) (w : World) (hmn : (m == n) = false) (m0 : 0 ≤ M) (hMN : M < N) (hN : N < 340282366920938463463374607431768211456) (hS : N - M = S) :
    Calls Tryz.prog 96 #[.agg #[.int .u64 (hi64 M), .int .u64 (lo64 M), .bool m], .agg #[.int .u64 (hi64 N), .int .u64 (lo64 N), .bool n]] w fun e w' =>
      e = .returned (.agg #[.int .u64 (hi64 S), .int .u64 (lo64 S), .bool n]) ∧ Below w.heap.size w w' := by
  have d0 : decide (M < N) = true := by simpa using hMN
  have LS := fun w => rless_any M N m n w
  rw [d0] at LS
  have LS := Lib.hid LS
  obtain ⟨e1, e2, e3⟩ := sub_parts N M S (by omega) m0 hN hS
  have W0 : Hid (Wid (((w.alloc (.cells #[.int .u64 (hi64 M), .int .u64 (lo64 M), .bool m] 137)).alloc (.cells #[.int .u64 (hi64 N), .int .u64 (lo64 N), .bool n] 137)).alloc (.cells #[.int .u64 0, .int .u64 0, .bool false] 137)) w.heap.size M m ∧
      Wid (((w.alloc (.cells #[.int .u64 (hi64 M), .int .u64 (lo64 M), .bool m] 137)).alloc (.cells #[.int .u64 (hi64 N), .int .u64 (lo64 N), .bool n] 137)).alloc (.cells #[.int .u64 0, .int .u64 0, .bool false] 137)) (w.heap.size + 1) N n ∧
      Wid (((w.alloc (.cells #[.int .u64 (hi64 M), .int .u64 (lo64 M), .bool m] 137)).alloc (.cells #[.int .u64 (hi64 N), .int .u64 (lo64 N), .bool n] 137)).alloc (.cells #[.int .u64 0, .int .u64 0, .bool false] 137)) (w.heap.size + 1 + 1) 0 false ∧
      Below w.heap.size w (((w.alloc (.cells #[.int .u64 (hi64 M), .int .u64 (lo64 M), .bool m] 137)).alloc (.cells #[.int .u64 (hi64 N), .int .u64 (lo64 N), .bool n] 137)).alloc (.cells #[.int .u64 0, .int .u64 0, .bool false] 137))) := by
    refine Lib.hid ⟨((Wid.new w M m).alloc _).alloc _, ?_, ?_, by (repeat (first | with_reducible exact Below.refl _ _ | with_reducible apply Below.drew | (with_reducible refine below_drewN ?_ _) | (with_reducible refine Below.alloc ?_ (by (try simp) <;> omega) _) | (with_reducible refine Below.setCell ?_ (by (try simp) <;> omega) _)))⟩
    · have h := (Wid.new (w.alloc (.cells #[.int .u64 (hi64 M), .int .u64 (lo64 M), .bool m] 137)) N n).alloc (.cells #[.int .u64 0, .int .u64 0, .bool false] 137)
      rwa [show (w.alloc (.cells #[.int .u64 (hi64 M), .int .u64 (lo64 M), .bool m] 137)).heap.size = w.heap.size + 1 from by simp] at h
    · have h := Wid.new ((w.alloc (.cells #[.int .u64 (hi64 M), .int .u64 (lo64 M), .bool m] 137)).alloc (.cells #[.int .u64 (hi64 N), .int .u64 (lo64 N), .bool n] 137)) 0 false
      rwa [show ((w.alloc (.cells #[.int .u64 (hi64 M), .int .u64 (lo64 M), .bool m] 137)).alloc (.cells #[.int .u64 (hi64 N), .int .u64 (lo64 N), .bool n] 137)).heap.size = w.heap.size + 1 + 1 from by simp] at h
  go_enter Tryz.func96, Tryz.ntmps96
  go_upto_region 1 with fail
  generalize ((w.alloc (.cells #[.int .u64 (hi64 M), .int .u64 (lo64 M), .bool m] 137)).alloc (.cells #[.int .u64 (hi64 N), .int .u64 (lo64 N), .bool n] 137)).alloc (.cells #[.int .u64 0, .int .u64 0, .bool false] 137) = V0 at *
  obtain ⟨⟨a0, a1, a2⟩, _⟩ := W0.out.1.c
  obtain ⟨⟨b0, b1, b2⟩, _⟩ := W0.out.2.1.c
  go_wp2_with fail
  refine (LS.out _).mono ?_; rintro e w1 ⟨rfl, hb1⟩
  have W1 := Lib.hid (And.intro (W0.out.1.below hb1) (And.intro (W0.out.2.1.below hb1) (And.intro (W0.out.2.2.1.below hb1) (Below.after W0.out.2.2.2 hb1))))
  clear hb1 a0 a1 a2 b0 b1 b2 W0 LS hmn
  obtain ⟨⟨a0, a1, a2⟩, _⟩ := W1.out.1.c
  obtain ⟨⟨b0, b1, b2⟩, _⟩ := W1.out.2.1.c
  obtain ⟨⟨r0, r1, r2⟩, f0, f1, f2⟩ := W1.out.2.2.1.c
  obtain ⟨_, g0, g1, g2⟩ := W1.out.1.c
  obtain ⟨_, h0, h1, h2⟩ := W1.out.2.1.c
  have hz : w.heap.size + 1 + 1 < w1.heap.size := W1.out.2.2.1.lt
  have V2 := Lib.hid (And.intro ((((W1.out.1.set N n).other (a := ⟨w.heap.size + 1, 0, none⟩) (by simp) (.int .u64 (hi64 M))).other (a := ⟨w.heap.size + 1, 1, none⟩) (by simp) (.int .u64 (lo64 M))).other (a := ⟨w.heap.size + 1, 2, none⟩) (by simp) (.bool m))
    (And.intro ((((W1.out.2.1.other (a := ⟨w.heap.size, 0, none⟩) (by simp) (.int .u64 (hi64 N))).other (a := ⟨w.heap.size, 1, none⟩) (by simp) (.int .u64 (lo64 N))).other (a := ⟨w.heap.size, 2, none⟩) (by simp) (.bool n)).set M m)
    (And.intro ((((((W1.out.2.2.1.other (a := ⟨w.heap.size, 0, none⟩) (by simp; omega) (.int .u64 (hi64 N))).other (a := ⟨w.heap.size, 1, none⟩) (by simp; omega) (.int .u64 (lo64 N))).other (a := ⟨w.heap.size, 2, none⟩) (by simp; omega) (.bool n)).other (a := ⟨w.heap.size + 1, 0, none⟩) (by simp) (.int .u64 (hi64 M))).other (a := ⟨w.heap.size + 1, 1, none⟩) (by simp) (.int .u64 (lo64 M))).other (a := ⟨w.heap.size + 1, 2, none⟩) (by simp) (.bool m))
    ((((((W1.out.2.2.2.setCell (p := ⟨w.heap.size, 0, none⟩) (by simp) (.int .u64 (hi64 N))).setCell (p := ⟨w.heap.size, 1, none⟩) (by simp) (.int .u64 (lo64 N))).setCell (p := ⟨w.heap.size, 2, none⟩) (by simp) (.bool n)).setCell (p := ⟨w.heap.size + 1, 0, none⟩) (by simp) (.int .u64 (hi64 M))).setCell (p := ⟨w.heap.size + 1, 1, none⟩) (by simp) (.int .u64 (lo64 M))).setCell (p := ⟨w.heap.size + 1, 2, none⟩) (by simp) (.bool m)))))
  go_upto_region 9 with fail
  generalize (((((w1.setCell ⟨w.heap.size, 0, none⟩ (.int .u64 (hi64 N))).setCell ⟨w.heap.size, 1, none⟩ (.int .u64 (lo64 N))).setCell ⟨w.heap.size, 2, none⟩ (.bool n)).setCell ⟨w.heap.size + 1, 0, none⟩ (.int .u64 (hi64 M))).setCell ⟨w.heap.size + 1, 1, none⟩ (.int .u64 (lo64 M))).setCell ⟨w.heap.size + 1, 2, none⟩ (.bool m) = w2 at *
  clear a0 a1 a2 b0 b1 b2 r0 r1 r2 f0 f1 f2 g0 g1 g2 h0 h1 h2 hz W1
  obtain ⟨⟨a0, a1, a2⟩, _⟩ := V2.out.1.c
  obtain ⟨⟨b0, b1, b2⟩, _⟩ := V2.out.2.1.c
  obtain ⟨⟨r0, r1, r2⟩, f0, f1, f2⟩ := V2.out.2.2.1.c
  have hz : w.heap.size + 1 + 1 < w2.heap.size := V2.out.2.2.1.lt
  by_cases hc : lo64 N < lo64 M
  · have d1 : decide (lo64 N < lo64 M) = true := by simpa using hc
    have e4 := e2 hc
    clear e2 e3 hc d0 hMN hN hS m0
    go_wp2_with fail
    refine bodyPost_ret (v := .agg #[.int .u64 (hi64 S), .int .u64 (lo64 S), .bool n]) (by simp [results, Tryz.results96, go_sem, r0, r1, r2, hz]) rfl ⟨rfl, ?_⟩
    exact ((V2.out.2.2.2.setCell (by simp; omega) _).setCell (by simp; omega) _).setCell (by simp; omega) _
  · have d1 : decide (lo64 N < lo64 M) = false := by simpa using hc
    have e4 := e3 (by omega)
    clear e2 e3 hc d0 hMN hN hS m0
    go_wp2_with fail
    refine bodyPost_ret (v := .agg #[.int .u64 (hi64 S), .int .u64 (lo64 S), .bool n]) (by simp [results, Tryz.results96, go_sem, r0, r1, r2, hz]) rfl ⟨rfl, ?_⟩
    exact ((V2.out.2.2.2.setCell (by simp; omega) _).setCell (by simp; omega) _).setCell (by simp; omega) _
end Go.Proofs.YtiajjiphknlldaaGreat
/- Contracts of the reference's scalars (4): add by sign and size, end, Clamp, Sat. -/
namespace Go.Proofs.YtiajjiphknlldaaGreat
open Go.RowKit
set_option maxRecDepth 100000
def adM (m n : Bool) (M N : Nat) : Nat := if m == n then M + N else if M < N then N - M else M - N
def adS (m n : Bool) (M N : Nat) : Bool := if m == n then m else if M < N then n else m
theorem sv_add (m n : Bool) (M N : Nat) : sv (adS m n M N) (adM m n M N) = sv m M + sv n N := by
  have hc : ((M + N : Nat) : Int) = M + N := by omega
  by_cases hl : M < N
  · unfold adS adM sv
    rw [if_pos hl, if_pos hl]
    cases m <;> cases n <;> simp <;> omega
  · unfold adS adM sv
    rw [if_neg hl, if_neg hl]
    cases m <;> cases n <;> simp <;> omega
theorem radd_any (M N : Nat) (m n : Bool) (w : World) (hM : M + N < 340282366920938463463374607431768211456) :
    Calls Tryz.prog 96 #[.agg #[.int .u64 (hi64 (M : Int)), .int .u64 (lo64 (M : Int)), .bool m], .agg #[.int .u64 (hi64 (N : Int)), .int .u64 (lo64 (N : Int)), .bool n]] w fun e w' =>
      e = .returned (.agg #[.int .u64 (hi64 (adM m n M N : Nat)), .int .u64 (lo64 (adM m n M N : Nat)), .bool (adS m n M N)]) ∧ Below w.heap.size w w' := by
  by_cases h : (m == n) = true
  · have e : m = n := by simpa using h
    subst e
    have e1 : adM m m M N = M + N := by unfold adM; rw [if_pos h]
    have e2 : adS m m M N = m := by unfold adS; rw [if_pos h]
    rw [e1, e2]
    exact radd_same M N ((M + N : Nat) : Int) m w (by omega) (by omega) (by omega) (by omega)
  · have h' : (m == n) = false := by simpa using h
    by_cases hl : M < N
    · have e1 : adM m n M N = N - M := by unfold adM; rw [if_neg h, if_pos hl]
      have e2 : adS m n M N = n := by unfold adS; rw [if_neg h, if_pos hl]
      rw [e1, e2]
      exact radd_lt M N ((N - M : Nat) : Int) m n w h' (by omega) (by omega) (by omega) (by omega)
    · have e1 : adM m n M N = M - N := by unfold adM; rw [if_neg h, if_neg hl]
      have e2 : adS m n M N = m := by unfold adS; rw [if_neg h, if_neg hl]
      rw [e1, e2]
      exact radd_gt M N ((M - N : Nat) : Int) m n w h' (by omega) (by omega) (by omega) (by omega)
/-- 'end': the number by sign and size, clamped. -/
theorem rend_walk (c : Addr) (h : Bool) (x y v : Int) (m : Bool) (w : World) (hc : w.cell? c = some (.bool h)) (hf : w.frozen? c = false)
    (hv : (if m = true then -y else y) = v) (hx : x = 0) (y0 : 0 ≤ y) (y1 : y ≤ 1152921504606846976) :
    Calls Tryz.prog 81 #[.pointer (some c), .agg #[.int .u64 x, .int .u64 y, .bool m]] w fun e w' => e = .returned (.int .i64 v) ∧ Upd c h w w' := by
  have hcb := World.block_lt_of_cell? w c hc
  have U := Lib.hid (Upd.refl hc)
  subst hx
  have d2 : decide (1152921504606846976 < y) = false := by simp; omega
  have e1 : wrap64 y = y := by unfold wrap64; omega
  have HV := Lib.hid hv
  clear hv
  cases m
  all_goals
    go_enter Tryz.func81, Tryz.ntmps81
    go_wp2_with fail
    go_ret
    refine ⟨retI (by have := HV.out; simp at this; first | exact this | (rw [← this]; first | rfl | (simp only [wrap64]; omega))), ?_⟩
    exact U.out.then' (by (repeat (first | with_reducible exact Below.refl _ _ | with_reducible apply Below.drew | (with_reducible refine below_drewN ?_ _) | (with_reducible refine Below.alloc ?_ (by (try simp) <;> omega) _) | (with_reducible refine Below.setCell ?_ (by (try simp) <;> omega) _))))
theorem rend_big (c : Addr) (h : Bool) (x y v : Int) (m : Bool) (w : World) (hc : w.cell? c = some (.bool h)) (hf : w.frozen? c = false)
    (hv : (if m = true then -1152921504606846976 else 1152921504606846976) = v) (hx : 0 < x ∨ (x = 0 ∧ 1152921504606846976 < y)) :
    Calls Tryz.prog 81 #[.pointer (some c), .agg #[.int .u64 x, .int .u64 y, .bool m]] w fun e w' => e = .returned (.int .i64 v) ∧ Upd c true w w' := by
  have hcb := World.block_lt_of_cell? w c hc
  have hcn : w.heap.size ≠ c.block := by omega
  have k1 : ∀ o, (w.alloc o).cell? c = some (.bool h) := fun o => by simp [World.cell?_alloc_lt, hcb, hc]
  have k2 : ∀ cs t, (w.alloc (.cells cs t)).frozen? c = false := fun cs t => by rw [frozen?_alloc_cells]; exact hf
  have k3 : ((w.alloc (.cells #[.int .u64 x, .int .u64 y, .bool m] 137)).setCell c (.bool true)).cell? ⟨w.heap.size, 2, none⟩ = some (.bool m) :=
    (World.cell?_setCell_other _ _ _ _ (fun e => by rw [e] at hcn; exact hcn rfl)).trans (by simp)
  have HV := Lib.hid hv
  clear hv
  rcases hx with hx | ⟨rfl, hy⟩
  · have d1 : decide (0 < x) = true := by simpa using hx
    cases m
    all_goals
      go_enter Tryz.func81, Tryz.ntmps81
      go_wp2_with fail
      go_ret
      refine ⟨retI (by have := HV.out; simpa using this), ?_⟩
      exact Upd.after (by (repeat (first | with_reducible exact Below.refl _ _ | with_reducible apply Below.drew | (with_reducible refine below_drewN ?_ _) | (with_reducible refine Below.alloc ?_ (by (try simp) <;> omega) _) | (with_reducible refine Below.setCell ?_ (by (try simp) <;> omega) _)))) (Upd.set c true _)
  · have d2 : decide (1152921504606846976 < y) = true := by simpa using hy
    cases m
    all_goals
      go_enter Tryz.func81, Tryz.ntmps81
      go_wp2_with fail
      go_ret
      refine ⟨retI (by have := HV.out; simpa using this), ?_⟩
      exact Upd.after (by (repeat (first | with_reducible exact Below.refl _ _ | with_reducible apply Below.drew | (with_reducible refine below_drewN ?_ _) | (with_reducible refine Below.alloc ?_ (by (try simp) <;> omega) _) | (with_reducible refine Below.setCell ?_ (by (try simp) <;> omega) _)))) (Upd.set c true _)
/-- By the number itself. -/
theorem rend2_any (c : Addr) (h : Bool) (M : Nat) (m : Bool) (w : World) (hc : w.cell? c = some (.bool h)) (hf : w.frozen? c = false) :
    Calls Tryz.prog 81 #[.pointer (some c), .agg #[.int .u64 (hi64 (M : Int)), .int .u64 (lo64 (M : Int)), .bool m]] w fun e w' =>
      e = .returned (.int .i64 (satV (sv m M))) ∧ Upd c (h || satH (sv m M)) w w' := by
  obtain ⟨e1, e2⟩ := satV_sv m M
  rw [e1, e2]
  by_cases hb : M > 1152921504606846976
  · have d : decide (M > 1152921504606846976) = true := by simpa using hb
    rw [d, Bool.or_true]
    refine rend_big c h _ _ _ m w hc hf ?_ (by unfold hi64 lo64; omega)
    unfold sv enM; rw [if_pos hb]; cases m <;> rfl
  · have d : decide (M > 1152921504606846976) = false := by simpa using hb
    rw [d, Bool.or_false]
    refine rend_walk c h _ _ _ m w hc hf ?_ (by unfold hi64; omega) (by unfold lo64; omega) (by unfold lo64; omega)
    unfold sv enM; rw [if_neg hb]; cases m <;> simp <;> unfold lo64 <;> omega
end Go.Proofs.YtiajjiphknlldaaGreat
/- Contracts of the reference's scalars (5): shifted. -/
namespace Go.Proofs.YtiajjiphknlldaaGreat
open Go.RowKit
set_option maxRecDepth 100000

theorem rshift30_any (M : Nat) (m : Bool) (w : World) (hM : M + 536870912 < 340282366920938463463374607431768211456) :
    Calls Tryz.prog 84 #[.agg #[.int .u64 (hi64 (M : Int)), .int .u64 (lo64 (M : Int)), .bool m], .int .i64 30] w fun e w' =>
      e = .returned (.agg #[.int .u64 (hi64 (shM M 30 : Nat)), .int .u64 (lo64 (shM M 30 : Nat)), .bool m]) ∧ Below w.heap.size w w' := by
  obtain ⟨T, hT⟩ : ∃ T : Nat, M + 536870912 = T := ⟨_, rfl⟩
  have hsh : shM M 30 = T / 1073741824 := by unfold shM; rw [if_neg (by decide), ← hT]
  have AD := fun w => radd_any M 536870912 m m w hM
  rw [show adM m m M 536870912 = T from by unfold adM; simp [hT], show adS m m M 536870912 = m from by unfold adS; simp] at AD
  rw [show hi64 ((536870912 : Nat) : Int) = 0 from by decide, show lo64 ((536870912 : Nat) : Int) = 536870912 from by decide] at AD
  have AD := Lib.hid AD
  have r1 : hi64 (T : Int) / 1073741824 = hi64 ((T / 1073741824 : Nat) : Int) := by unfold hi64; omega
  have hx : hi64 (T : Int) = ((T / 18446744073709551616 : Nat) : Int) := by unfold hi64; omega
  have hy : lo64 (T : Int) = ((T % 18446744073709551616 : Nat) : Int) := by unfold lo64; omega
  have r2 : bits .or .u64 (lo64 (T : Int) / 1073741824) (IntKind.u64.wrap (hi64 (T : Int) * 17179869184)) = lo64 ((T / 1073741824 : Nat) : Int) := by
    have k := shr_lo_eq (T / 18446744073709551616) (T % 18446744073709551616) 30 (by decide) (by omega)
    rw [show T / 18446744073709551616 * 18446744073709551616 + T % 18446744073709551616 = T from by omega] at k
    rw [hx, hy, IntKind.wrap_u64]
    rw [show (((T % 18446744073709551616 : Nat) : Int) / 1073741824) = ((T % 18446744073709551616 / 1073741824 : Nat) : Int) from by omega]
    rw [show (((T / 18446744073709551616 : Nat) : Int) * 17179869184 % 18446744073709551616) = ((T / 18446744073709551616 * 17179869184 % 18446744073709551616 : Nat) : Int) from by omega]
    rw [bits_or_u64_nat _ _ (by omega) (by omega), Nat.or_comm]
    unfold lo64
    rw [show (2 : Nat) ^ 30 = 1073741824 from rfl, show (2 : Nat) ^ (64 - 30) = 17179869184 from rfl] at k
    rw [← k]
    omega
  obtain ⟨u, hu⟩ : ∃ u, hi64 ((T / 1073741824 : Nat) : Int) = u := ⟨_, rfl⟩
  obtain ⟨v, hv⟩ : ∃ v, lo64 ((T / 1073741824 : Nat) : Int) = v := ⟨_, rfl⟩
  rw [hu] at r1
  rw [hv] at r2
  have HS := Lib.hid (And.intro hsh (And.intro hu hv))
  clear hsh hx hy hM hT hu hv
  go_enter Tryz.func84, Tryz.ntmps84
  go_wp2_with fail
  refine (AD.out _).mono ?_; rintro e w1 ⟨rfl, hb1⟩
  have hb1z0 : w.heap.size < w1.heap.size := by have := hb1.size; (try simp at this); omega
  have hb1z1 : w.heap.size + 1 < w1.heap.size := by have := hb1.size; (try simp at this); omega
  have hb1z2 : w.heap.size + 1 + 1 < w1.heap.size := by have := hb1.size; (try simp at this); omega
  have hb1c0_0 := hb1.cell (p := ⟨w.heap.size, 0, none⟩) (by (try simp); (try omega))
  have hb1f0_0 := hb1.frozen (p := ⟨w.heap.size, 0, none⟩) (by (try simp); (try omega))
  simp [go_sem, *] at hb1c0_0 hb1f0_0
  have hb1c0_1 := hb1.cell (p := ⟨w.heap.size, 1, none⟩) (by (try simp); (try omega))
  have hb1f0_1 := hb1.frozen (p := ⟨w.heap.size, 1, none⟩) (by (try simp); (try omega))
  simp [go_sem, *] at hb1c0_1 hb1f0_1
  have hb1c0_2 := hb1.cell (p := ⟨w.heap.size, 2, none⟩) (by (try simp); (try omega))
  have hb1f0_2 := hb1.frozen (p := ⟨w.heap.size, 2, none⟩) (by (try simp); (try omega))
  simp [go_sem, *] at hb1c0_2 hb1f0_2
  have hb1c1_0 := hb1.cell (p := ⟨w.heap.size + 1, 0, none⟩) (by (try simp); (try omega))
  have hb1f1_0 := hb1.frozen (p := ⟨w.heap.size + 1, 0, none⟩) (by (try simp); (try omega))
  simp [go_sem, *] at hb1c1_0 hb1f1_0
  have hb1c1_1 := hb1.cell (p := ⟨w.heap.size + 1, 1, none⟩) (by (try simp); (try omega))
  have hb1f1_1 := hb1.frozen (p := ⟨w.heap.size + 1, 1, none⟩) (by (try simp); (try omega))
  simp [go_sem, *] at hb1c1_1 hb1f1_1
  have hb1c1_2 := hb1.cell (p := ⟨w.heap.size + 1, 2, none⟩) (by (try simp); (try omega))
  have hb1f1_2 := hb1.frozen (p := ⟨w.heap.size + 1, 2, none⟩) (by (try simp); (try omega))
  simp [go_sem, *] at hb1c1_2 hb1f1_2
  have hb1c2_0 := hb1.cell (p := ⟨w.heap.size + 1 + 1, 0, none⟩) (by (try simp); (try omega))
  have hb1f2_0 := hb1.frozen (p := ⟨w.heap.size + 1 + 1, 0, none⟩) (by (try simp); (try omega))
  simp [go_sem, *] at hb1c2_0 hb1f2_0
  have hb1c2_1 := hb1.cell (p := ⟨w.heap.size + 1 + 1, 1, none⟩) (by (try simp); (try omega))
  have hb1f2_1 := hb1.frozen (p := ⟨w.heap.size + 1 + 1, 1, none⟩) (by (try simp); (try omega))
  simp [go_sem, *] at hb1c2_1 hb1f2_1
  have hb1c2_2 := hb1.cell (p := ⟨w.heap.size + 1 + 1, 2, none⟩) (by (try simp); (try omega))
  have hb1f2_2 := hb1.frozen (p := ⟨w.heap.size + 1 + 1, 2, none⟩) (by (try simp); (try omega))
  simp [go_sem, *] at hb1c2_2 hb1f2_2
  have B1 := Lib.hid (Below.trans (show Below w.heap.size w _ by (repeat (first | with_reducible exact Below.refl _ _ | with_reducible apply Below.drew | (with_reducible refine below_drewN ?_ _) | (with_reducible refine Below.alloc ?_ (by (try simp) <;> omega) _) | (with_reducible refine Below.setCell ?_ (by (try simp) <;> omega) _)))) (hb1.mono (by simp; omega)))
  clear hb1
  go_wp2_with fail
  refine bodyPost_ret (v := .agg #[.int .u64 u, .int .u64 v, .bool m]) (by simp [results, Tryz.results84, go_sem, *]) rfl ⟨?_, ?_⟩
  · rw [HS.out.1, HS.out.2.1, HS.out.2.2]
  · have hB := B1.out
    (repeat (first | with_reducible exact Below.refl _ _ | with_reducible assumption | with_reducible apply Below.drew | (with_reducible refine below_drewN ?_ _) | (with_reducible refine Below.alloc ?_ (by (try simp) <;> omega) _) | (with_reducible refine Below.setCell ?_ (by (try simp) <;> omega) _) | (with_reducible refine Below.trans ?_ (Below.mono (by assumption) (by (try simp) <;> omega)))))

theorem rshift44_any (M : Nat) (m : Bool) (w : World) (hM : M + 8796093022208 < 340282366920938463463374607431768211456) :
    Calls Tryz.prog 84 #[.agg #[.int .u64 (hi64 (M : Int)), .int .u64 (lo64 (M : Int)), .bool m], .int .i64 44] w fun e w' =>
      e = .returned (.agg #[.int .u64 (hi64 (shM M 44 : Nat)), .int .u64 (lo64 (shM M 44 : Nat)), .bool m]) ∧ Below w.heap.size w w' := by
  obtain ⟨T, hT⟩ : ∃ T : Nat, M + 8796093022208 = T := ⟨_, rfl⟩
  have hsh : shM M 44 = T / 17592186044416 := by unfold shM; rw [if_neg (by decide), ← hT]
  have AD := fun w => radd_any M 8796093022208 m m w hM
  rw [show adM m m M 8796093022208 = T from by unfold adM; simp [hT], show adS m m M 8796093022208 = m from by unfold adS; simp] at AD
  rw [show hi64 ((8796093022208 : Nat) : Int) = 0 from by decide, show lo64 ((8796093022208 : Nat) : Int) = 8796093022208 from by decide] at AD
  have AD := Lib.hid AD
  have r1 : hi64 (T : Int) / 17592186044416 = hi64 ((T / 17592186044416 : Nat) : Int) := by unfold hi64; omega
  have hx : hi64 (T : Int) = ((T / 18446744073709551616 : Nat) : Int) := by unfold hi64; omega
  have hy : lo64 (T : Int) = ((T % 18446744073709551616 : Nat) : Int) := by unfold lo64; omega
  have r2 : bits .or .u64 (lo64 (T : Int) / 17592186044416) (IntKind.u64.wrap (hi64 (T : Int) * 1048576)) = lo64 ((T / 17592186044416 : Nat) : Int) := by
    have k := shr_lo_eq (T / 18446744073709551616) (T % 18446744073709551616) 44 (by decide) (by omega)
    rw [show T / 18446744073709551616 * 18446744073709551616 + T % 18446744073709551616 = T from by omega] at k
    rw [hx, hy, IntKind.wrap_u64]
    rw [show (((T % 18446744073709551616 : Nat) : Int) / 17592186044416) = ((T % 18446744073709551616 / 17592186044416 : Nat) : Int) from by omega]
    rw [show (((T / 18446744073709551616 : Nat) : Int) * 1048576 % 18446744073709551616) = ((T / 18446744073709551616 * 1048576 % 18446744073709551616 : Nat) : Int) from by omega]
    rw [bits_or_u64_nat _ _ (by omega) (by omega), Nat.or_comm]
    unfold lo64
    rw [show (2 : Nat) ^ 44 = 17592186044416 from rfl, show (2 : Nat) ^ (64 - 44) = 1048576 from rfl] at k
    rw [← k]
    omega
  obtain ⟨u, hu⟩ : ∃ u, hi64 ((T / 17592186044416 : Nat) : Int) = u := ⟨_, rfl⟩
  obtain ⟨v, hv⟩ : ∃ v, lo64 ((T / 17592186044416 : Nat) : Int) = v := ⟨_, rfl⟩
  rw [hu] at r1
  rw [hv] at r2
  have HS := Lib.hid (And.intro hsh (And.intro hu hv))
  clear hsh hx hy hM hT hu hv
  go_enter Tryz.func84, Tryz.ntmps84
  go_wp2_with fail
  refine (AD.out _).mono ?_; rintro e w1 ⟨rfl, hb1⟩
  have hb1z0 : w.heap.size < w1.heap.size := by have := hb1.size; (try simp at this); omega
  have hb1z1 : w.heap.size + 1 < w1.heap.size := by have := hb1.size; (try simp at this); omega
  have hb1z2 : w.heap.size + 1 + 1 < w1.heap.size := by have := hb1.size; (try simp at this); omega
  have hb1c0_0 := hb1.cell (p := ⟨w.heap.size, 0, none⟩) (by (try simp); (try omega))
  have hb1f0_0 := hb1.frozen (p := ⟨w.heap.size, 0, none⟩) (by (try simp); (try omega))
  simp [go_sem, *] at hb1c0_0 hb1f0_0
  have hb1c0_1 := hb1.cell (p := ⟨w.heap.size, 1, none⟩) (by (try simp); (try omega))
  have hb1f0_1 := hb1.frozen (p := ⟨w.heap.size, 1, none⟩) (by (try simp); (try omega))
  simp [go_sem, *] at hb1c0_1 hb1f0_1
  have hb1c0_2 := hb1.cell (p := ⟨w.heap.size, 2, none⟩) (by (try simp); (try omega))
  have hb1f0_2 := hb1.frozen (p := ⟨w.heap.size, 2, none⟩) (by (try simp); (try omega))
  simp [go_sem, *] at hb1c0_2 hb1f0_2
  have hb1c1_0 := hb1.cell (p := ⟨w.heap.size + 1, 0, none⟩) (by (try simp); (try omega))
  have hb1f1_0 := hb1.frozen (p := ⟨w.heap.size + 1, 0, none⟩) (by (try simp); (try omega))
  simp [go_sem, *] at hb1c1_0 hb1f1_0
  have hb1c1_1 := hb1.cell (p := ⟨w.heap.size + 1, 1, none⟩) (by (try simp); (try omega))
  have hb1f1_1 := hb1.frozen (p := ⟨w.heap.size + 1, 1, none⟩) (by (try simp); (try omega))
  simp [go_sem, *] at hb1c1_1 hb1f1_1
  have hb1c1_2 := hb1.cell (p := ⟨w.heap.size + 1, 2, none⟩) (by (try simp); (try omega))
  have hb1f1_2 := hb1.frozen (p := ⟨w.heap.size + 1, 2, none⟩) (by (try simp); (try omega))
  simp [go_sem, *] at hb1c1_2 hb1f1_2
  have hb1c2_0 := hb1.cell (p := ⟨w.heap.size + 1 + 1, 0, none⟩) (by (try simp); (try omega))
  have hb1f2_0 := hb1.frozen (p := ⟨w.heap.size + 1 + 1, 0, none⟩) (by (try simp); (try omega))
  simp [go_sem, *] at hb1c2_0 hb1f2_0
  have hb1c2_1 := hb1.cell (p := ⟨w.heap.size + 1 + 1, 1, none⟩) (by (try simp); (try omega))
  have hb1f2_1 := hb1.frozen (p := ⟨w.heap.size + 1 + 1, 1, none⟩) (by (try simp); (try omega))
  simp [go_sem, *] at hb1c2_1 hb1f2_1
  have hb1c2_2 := hb1.cell (p := ⟨w.heap.size + 1 + 1, 2, none⟩) (by (try simp); (try omega))
  have hb1f2_2 := hb1.frozen (p := ⟨w.heap.size + 1 + 1, 2, none⟩) (by (try simp); (try omega))
  simp [go_sem, *] at hb1c2_2 hb1f2_2
  have B1 := Lib.hid (Below.trans (show Below w.heap.size w _ by (repeat (first | with_reducible exact Below.refl _ _ | with_reducible apply Below.drew | (with_reducible refine below_drewN ?_ _) | (with_reducible refine Below.alloc ?_ (by (try simp) <;> omega) _) | (with_reducible refine Below.setCell ?_ (by (try simp) <;> omega) _)))) (hb1.mono (by simp; omega)))
  clear hb1
  go_wp2_with fail
  refine bodyPost_ret (v := .agg #[.int .u64 u, .int .u64 v, .bool m]) (by simp [results, Tryz.results84, go_sem, *]) rfl ⟨?_, ?_⟩
  · rw [HS.out.1, HS.out.2.1, HS.out.2.2]
  · have hB := B1.out
    (repeat (first | with_reducible exact Below.refl _ _ | with_reducible assumption | with_reducible apply Below.drew | (with_reducible refine below_drewN ?_ _) | (with_reducible refine Below.alloc ?_ (by (try simp) <;> omega) _) | (with_reducible refine Below.setCell ?_ (by (try simp) <;> omega) _) | (with_reducible refine Below.trans ?_ (Below.mono (by assumption) (by (try simp) <;> omega)))))
end Go.Proofs.YtiajjiphknlldaaGreat
