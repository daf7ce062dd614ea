/- Contracts of the program's functions and plain laws, part 27: they hold for all arguments. -/
import Derived.Test.YtgfklheepkgedaaGreatQ04
import Derived.OpenShut
import Derived.ProofKit
import Derived.Carry
/- Arguments that are arrays of int64 (or structs of such): opened as numbers; a slice of int64 too. Of no one program. -/
namespace Go.Proofs.YtgfklheepkgedaaGreat
open Go.RowKit Go.ChangeShapes
def AllInt (cs : List Value) : Prop := ∀ v, v ∈ cs → ∃ z, v = .int .i64 z ∧ (Lit.int .i64 z).wf = true
section
variable {H : Type} {enc : TypeId × Value → H} {P : Program} {w : World} {base : Nat} {spare : Nat → Bool} {held : Bool}
/-- What reads as t is int64 numbers alone. -/
def Ints (enc : TypeId × Value → H) (P : Program) (w : World) (base : Nat) (spare : Nat → Bool) (held : Bool) (t : TypeId) : Prop :=
 ∀ fuel cs x, DataW.trod enc P w base spare held fuel t cs = some x → AllInt cs ∧ x.2 = []
theorem ints_int {t : TypeId} (hu : P.underlying t = some (.int .i64)) : Ints enc P w base spare held t := by
 intro fuel cs x h
 obtain ⟨n, h1, h2, h3⟩ := DataW.trod_int hu h
 subst h1
 refine ⟨fun v hv => ?_, ?_⟩
 ·rw [List.mem_singleton] at hv; exact ⟨n, hv, h3⟩
 ·rw [h2]
theorem ints_array {t e : TypeId} {n m : Nat} (hu : P.underlying t = some (.array n e)) (hc : P.cellsOf t = n * m) (hm : P.cellsOf e = m) (he : Ints enc P w base spare held e) : Ints enc P w base spare held t := by
 intro fuel cs x h
 obtain ⟨xs, k, rfl, rfl, hl, hx, hi⟩ := DataW.trod_array hu h
 rw [hc] at hl
 rw [hm] at hi
 refine ⟨fun v hv => ?_, ?_⟩
 ·obtain ⟨q, hq, rfl⟩ := List.getElem_of_mem hv
  have hm0 : 0 < m := by
   rcases Nat.eq_zero_or_pos m with h0 | h0
   ·subst h0; omega
   ·exact h0
  have hqm : q / m < n := by rw [Nat.div_lt_iff_lt_mul hm0]; omega
  have hh := hi (q / m) hqm
  rw [List.getElem?_eq_getElem (by omega)] at hh
  refine (he _ _ _ hh).1 _ ?_
  rw [List.mem_iff_getElem?]
  refine ⟨q % m, ?_⟩
  rw [List.getElem?_take_of_lt (Nat.mod_lt _ hm0), List.getElem?_drop, Nat.mul_comm, Nat.div_add_mod]
  exact List.getElem?_eq_getElem hq
 ·show xs.flatMap (·.2) = []
  rw [List.flatMap_eq_nil_iff]
  intro y hy
  obtain ⟨q, hq, rfl⟩ := List.getElem_of_mem hy
  have hh := hi q (by omega)
  rw [List.getElem?_eq_getElem hq] at hh
  exact (he _ _ _ hh).2
/-- A struct of two: U's numbers, then D's. -/
theorem ints_struct2 {t : TypeId} {f0 f1 : Field} {a b : Nat} (hu : P.underlying t = some (.struct #[f0, f1])) (hc : P.cellsOf t = a + b) (o0 : f0.offset = 0) (o1 : f1.offset = a) (c0 : P.cellsOf f0.type = a) (c1 : P.cellsOf f1.type = b)
  (h0 : Ints enc P w base spare held f0.type) (h1 : Ints enc P w base spare held f1.type) : Ints enc P w base spare held t := by
 intro fuel cs x h
 obtain ⟨xs, k, rfl, rfl, hl, hx, hi⟩ := DataW.trod_struct hu h
 rw [hc] at hl
 have hx2 : xs.length = 2 := hx
 have g0 := hi 0 f0 rfl
 have g1 := hi 1 f1 rfl
 rw [List.getElem?_eq_getElem (by omega)] at g0 g1
 have r0 := h0 _ _ _ g0
 have r1 := h1 _ _ _ g1
 refine ⟨fun v hv => ?_, ?_⟩
 ·obtain ⟨q, hq, rfl⟩ := List.getElem_of_mem hv
  by_cases hqa : q < a
  ·refine r0.1 _ ?_
   rw [List.mem_iff_getElem?]
   refine ⟨q, ?_⟩
   rw [c0, o0, List.drop_zero, List.getElem?_take_of_lt hqa]
   exact List.getElem?_eq_getElem hq
  ·refine r1.1 _ ?_
   rw [List.mem_iff_getElem?]
   refine ⟨q - a, ?_⟩
   rw [c1, o1, List.getElem?_take_of_lt (by omega), List.getElem?_drop, show a + (q - a) = q by omega]
   exact List.getElem?_eq_getElem hq
 ·show xs.flatMap (·.2) = []
  rw [List.flatMap_eq_nil_iff]
  intro y hy
  obtain ⟨q, hq, rfl⟩ := List.getElem_of_mem hy
  obtain rfl | rfl : q = 0 ∨ q = 1 := by omega
  ·exact r0.2
  ·exact r1.2
/-- A value of such a type: an aggregate of numbers. -/
theorem open_vec {r : Reach} {b0 n : Nat} {t : TypeId} {v : Value} {d : DataW H} {ps : List MemPlace} (hI : Ints enc P w base spare held t) (hc : P.cellsOf t = n)
  (hu : ∃ u, P.underlying t = some u ∧ (match u with | .struct _ | .array _ _ => true | _ => false) = true) (hval : Value.okWide P w r b0 t v) (hd : DataW.Trod enc P w base spare held t v d ps) :
  ∃ f : Nat → Int, v = .agg (arrv n f) ∧ (∀ i, -9223372036854775808 ≤ f i ∧ f i ≤ 9223372036854775807) ∧ ps = [] := by
 obtain ⟨u, hu1, hu2⟩ := hu
 have hv : ∃ cs, v = .agg cs ∧ cs.size = P.cellsOf t := by
  unfold Value.okWide at hval
  rw [hu1] at hval
  cases u <;> simp at hu2 hval <;> (obtain ⟨cs, h1, h2, _⟩ := hval; exact ⟨cs, h1, h2⟩)
 obtain ⟨cs, rfl, hs⟩ := hv
 rw [hc] at hs
 obtain ⟨fuel, hf⟩ := hd
 obtain ⟨hA, hp⟩ := hI _ _ _ hf
 have hA' : ∀ i, i < n → ∃ z, cs[i]? = some (.int .i64 z) ∧ (Lit.int .i64 z).wf = true := by
  intro i hi
  have hm : cs[i]'(by omega) ∈ (Value.agg cs).cells.toList := by simp [Value.cells]
  obtain ⟨z, hz, hw⟩ := hA _ hm
  exact ⟨z, by rw [Array.getElem?_eq_getElem (by omega), hz], hw⟩
 refine ⟨fun i => if h : i < n then Classical.choose (hA' i h) else 0, ?_, fun i => ?_, hp⟩
 ·congr 1
  apply Array.ext_getElem?
  intro i
  by_cases hi : i < n
  ·rw [arrv_get hi]
   simp only [dif_pos hi]
   exact (Classical.choose_spec (hA' i hi)).1
  ·rw [Array.getElem?_eq_none (by omega), Array.getElem?_eq_none (by rw [arrv_size]; omega)]
 ·by_cases hi : i < n
  ·simp only [dif_pos hi]
   exact Go.bounds_i64 (Classical.choose_spec (hA' i hi)).2
  ·simp only [dif_neg hi]; omega
end
end Go.Proofs.YtgfklheepkgedaaGreat
/- The join of a law: arguments that read before the call read behind it, if nothing that was there has turned. -/
namespace Go.Proofs.YtgfklheepkgedaaGreat
open Go.ChangeShapes Go.WideShapes Go.ChangeAt Go.RowKit
theorem trodAll_stays {H : Type} {enc : TypeId × Value → H} {P : Program} (hl : laidOutB P = true) {W W' : World} (hb : Below W.heap.size W W') {sp : Nat → Bool} : ∀ {ts : List TypeId} {vs : List Value} {ds : List (DataW H)} {p : List MemPlace},
  (ts.all fun t => P.readableRec t && decide (t < P.types.size)) = true → DataW.TrodAll enc P W 0 (fun _ => true) true ts vs ds p → (∀ x ∈ p, x.block < W.heap.size) → (∀ x ∈ p, sp x.block = true) → DataW.TrodAll enc P W' 0 sp true ts vs ds p
 | [], [], [], _, _, h, _, _ => h
 | t :: ts, v :: vs, d :: ds, p, ht, h, hlt, hsp => by
  obtain ⟨q, r, h1, h2, rfl⟩ := h
  rw [List.all_cons, Bool.and_eq_true, Bool.and_eq_true, decide_eq_true_eq] at ht
  exact ⟨q, r, WideElems.Trod_stays hl ht.1.1 ht.1.2 h1 (fun x hx => hb.same (hlt x (List.mem_append_left _ hx))) (fun x hx => hsp x (List.mem_append_left _ hx)),
   trodAll_stays hl hb ht.2 h2 (fun x hx => hlt x (List.mem_append_right _ hx)) (fun x hx => hsp x (List.mem_append_right _ hx)), rfl⟩
 | [], _ :: _, _, _, _, h, _, _ => by cases ‹List (DataW H)› <;> exact h.elim
 | [], [], _ :: _, _, _, h, _, _ => h.elim
 | _ :: _, [], _, _, _, h, _, _ => by cases ‹List (DataW H)› <;> exact h.elim
 | _ :: _, _ :: _, [], _, _, h, _, _ => h.elim
/-- What a law owes behind the call: it answers true, and nothing that was there has turned. -/
theorem law_post {H : Type} {enc : TypeId × Value → H} {P : Program} {f : Func} {s : ChangeSpec} {apart fresh handsOn again : Bool} {W W' : World} {args : Array Value} {ds gs : List (DataW H)} {before : List MemPlace} {tb : TypeId}
  (hW : DataW.Whole enc P f.params.toList s.vars apart W args.toList ds gs before) (hv : s.vars = []) (hfn : s.fn H ds = { results := [.lit (.bool true)], args := ds })
  (hu : P.underlying tb = some .bool) (hr : f.resultTypes = #[tb]) (hl : laidOutB P = true) (hts : (f.params.toList.all fun t => P.readableRec t && decide (t < P.types.size)) = true) (hb : Below W.heap.size W W') :
  s.post enc P f apart fresh handsOn again W args (.bool true) W' := by
 have hlt : ∀ x ∈ before, x.block < W.heap.size := fun x hx => hW.lt x hx
 have hW0 := hW
 obtain ⟨p, q, hA, hV, rfl, hfz, hnd⟩ := hW
 rw [hv] at hV
 obtain ⟨rfl, rfl⟩ := trodVars_none hV
 rw [List.append_nil] at hlt
 have hargs : ∀ sp : Nat → Bool, (∀ x ∈ p, sp x.block = true) → DataW.TrodAll enc P W' 0 sp true f.params.toList args.toList ds p := fun sp hsp => trodAll_stays hl hb hts hA hlt hsp
 have hvars : ∀ sp : Nat → Bool, DataW.TrodVars enc P W' sp s.vars ([] : List (DataW H)) [] := fun sp => by rw [hv]; exact rfl
 have hres : ∀ (b : Nat) (sp : Nat → Bool) (hd : Bool), DataW.TrodAll enc P W' b sp hd f.resultTypes.toList ((Value.bool true).resultList f.resultTypes.size) [.lit (.bool true)] [] := fun b sp hd => by
  rw [hr]; exact trodAll_mk1 (shut_bool hu _)
 have hold : ∀ x ∈ p, (fun b => decide (b < W.heap.size)) x.block = true := fun x hx => by simpa using hlt x hx
 have hfn' : s.fn H (ds ++ []) = { results := [.lit (.bool true)], args := ds } := by rw [List.append_nil]; exact hfn
 refine ⟨ds, [], p ++ [], [], p, [], hW0, ?_, ?_, ?_, World.keptBut_mono (fun x hx => ⟨hx, ?_⟩) (hb.frame (· ∈ p ++ [])), fun _ => ?_⟩
 ·rw [hfn']; exact hres _ _ _
 ·rw [hfn']; exact hargs _ hold
 ·rw [hfn']; exact hvars _
 ·rw [List.append_nil] at hx; exact Or.inr (.inl hx)
 ·refine ⟨ok_one hr rfl (okWide_bool_mk hu _), _, _, ([] ++ p) ++ [], ⟨[] ++ p, [], trodAll_append (hargs _ (fun _ _ => rfl)) (hres _ _ _), hvars _, rfl, ?_, ?_⟩, ?_⟩
  ·intro b off hx
   have hin : MemPlace.cell b off ∈ p := by simpa using hx
   rw [hb.frozen (p := ⟨b, off, none⟩) (hlt _ hin)]
   exact hfz b off (by simpa using hin)
  ·intro ha
   simpa using hnd ha
  ·intro x hx _
   simpa using hx
section
variable {H : Type} {enc : TypeId × Value → H} {w : World} {base : Nat} {spare : Nat → Bool} {held : Bool}
theorem cells_of_size {P : Program} {t : TypeId} {n : Nat} (h : (P.info? t).map (·.size) = some n) : P.cellsOf t = n := by
 unfold Program.cellsOf
 cases e : P.info? t with
 | none => rw [e] at h; cases h
 | some i => rw [e] at h; simpa using h
theorem cells_i64 : Tryz.prog.cellsOf 2 = 1 := cells_of_size (by kernel_rfl)
theorem cells_col : Tryz.prog.cellsOf 22 = 24 := cells_of_size (by kernel_rfl)
theorem cells_u : Tryz.prog.cellsOf 24 = 276 := cells_of_size (by kernel_rfl)
theorem cells_cov : Tryz.prog.cellsOf 26 = 300 := cells_of_size (by kernel_rfl)
theorem ints_i64 : Ints enc Tryz.prog w base spare held 2 := ints_int Tryz.underlying2
theorem ints_col : Ints enc Tryz.prog w base spare held 22 := ints_array (n := 24) (m := 1) Tryz.underlying22 cells_col cells_i64 ints_i64
theorem ints_u : Ints enc Tryz.prog w base spare held 24 := ints_array (n := 276) (m := 1) Tryz.underlying24 cells_u cells_i64 ints_i64
theorem ints_cov : Ints enc Tryz.prog w base spare held 26 := ints_struct2 (a := 276) (b := 24) Tryz.underlying26 cells_cov rfl rfl cells_u cells_col ints_u ints_col
theorem cells_st : Tryz.prog.cellsOf 23 = 24 := cells_of_size (by kernel_rfl)
theorem ints_st : Ints enc Tryz.prog w base spare held 23 := ints_array (n := 24) (m := 1) Tryz.underlying23 cells_st cells_i64 ints_i64
set_option maxRecDepth 100000 in
theorem cells_v3 : Tryz.prog.cellsOf 28 = 3 := cells_of_size (by kernel_rfl)
set_option maxRecDepth 100000 in
theorem ints_v3 : Ints enc Tryz.prog w base spare held 28 := ints_array (n := 3) (m := 1) Tryz.underlying28 cells_v3 cells_i64 ints_i64
theorem own_knob : ownKnob Tryz.prog.godebug = none := by kernel_rfl
theorem laid_out : laidOutB Tryz.prog = true := by kernel_rfl
end
end Go.Proofs.YtgfklheepkgedaaGreat
