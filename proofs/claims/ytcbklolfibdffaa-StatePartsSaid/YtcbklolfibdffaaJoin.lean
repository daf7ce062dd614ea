/- The join of a law: arguments that read before the call read behind it, if nothing that was there has turned. -/
import Derived.Test.YtcbklolfibdffaaOpen
import Derived.Test.YtcbklolfibdffaaLdR
import Derived.Carry
import Derived.ProofKit
namespace Go.Proofs.Ytcbklolfibdffaa
open Go.ChangeShapes Go.WideShapes Go.ChangeAt Go.RowKit
theorem trodAll_stays {H : Type} {enc : TypeId × Value → H} {P : Program} (hl : laidOutB P = true) {W W' : World} (hb : Below W.heap.size W W') {sp : Nat → Bool} : ∀ {ts : List TypeId} {vs : List Value} {ds : List (DataW H)} {p : List MemPlace},
    (ts.all fun t => P.readableRec t && decide (t < P.types.size)) = true → DataW.TrodAll enc P W 0 (fun _ => true) true ts vs ds p → (∀ x ∈ p, x.block < W.heap.size) → (∀ x ∈ p, sp x.block = true) → DataW.TrodAll enc P W' 0 sp true ts vs ds p
  | [], [], [], _, _, h, _, _ => h
  | t :: ts, v :: vs, d :: ds, p, ht, h, hlt, hsp => by
    obtain ⟨q, r, h1, h2, rfl⟩ := h
    rw [List.all_cons, Bool.and_eq_true, Bool.and_eq_true, decide_eq_true_eq] at ht
    exact ⟨q, r, WideElems.Trod_stays hl ht.1.1 ht.1.2 h1 (fun x hx => hb.same (hlt x (List.mem_append_left _ hx))) (fun x hx => hsp x (List.mem_append_left _ hx)),
      trodAll_stays hl hb ht.2 h2 (fun x hx => hlt x (List.mem_append_right _ hx)) (fun x hx => hsp x (List.mem_append_right _ hx)), rfl⟩
  | [], _ :: _, _, _, _, h, _, _ => by cases ‹List (DataW H)› <;> exact h.elim
  | [], [], _ :: _, _, _, h, _, _ => h.elim
  | _ :: _, [], _, _, _, h, _, _ => by cases ‹List (DataW H)› <;> exact h.elim
  | _ :: _, _ :: _, [], _, _, h, _, _ => h.elim
/-- What a law owes behind the call: it answers true, and nothing that was there has turned. -/
theorem law_post {H : Type} {enc : TypeId × Value → H} {P : Program} {f : Func} {s : ChangeSpec} {apart fresh handsOn again : Bool} {W W' : World} {args : Array Value} {ds gs : List (DataW H)} {before : List MemPlace} {tb : TypeId}
    (hW : DataW.Whole enc P f.params.toList s.vars apart W args.toList ds gs before) (hv : s.vars = []) (hfn : s.fn H ds = { results := [.lit (.bool true)], args := ds })
    (hu : P.underlying tb = some .bool) (hr : f.resultTypes = #[tb]) (hl : laidOutB P = true) (hts : (f.params.toList.all fun t => P.readableRec t && decide (t < P.types.size)) = true) (hb : Below W.heap.size W W') :
    s.post enc P f apart fresh handsOn again W args (.bool true) W' := by
  have hlt : ∀ x ∈ before, x.block < W.heap.size := fun x hx => hW.lt x hx
  have hW0 := hW
  obtain ⟨p, q, hA, hV, rfl, hfz, hnd⟩ := hW
  rw [hv] at hV
  obtain ⟨rfl, rfl⟩ := trodVars_none hV
  rw [List.append_nil] at hlt
  have hargs : ∀ sp : Nat → Bool, (∀ x ∈ p, sp x.block = true) → DataW.TrodAll enc P W' 0 sp true f.params.toList args.toList ds p := fun sp hsp => trodAll_stays hl hb hts hA hlt hsp
  have hvars : ∀ sp : Nat → Bool, DataW.TrodVars enc P W' sp s.vars ([] : List (DataW H)) [] := fun sp => by rw [hv]; exact rfl
  have hres : ∀ (b : Nat) (sp : Nat → Bool) (hd : Bool), DataW.TrodAll enc P W' b sp hd f.resultTypes.toList ((Value.bool true).resultList f.resultTypes.size) [.lit (.bool true)] [] := fun b sp hd => by
    rw [hr]; exact trodAll_mk1 (shut_bool hu _)
  have hold : ∀ x ∈ p, (fun b => decide (b < W.heap.size)) x.block = true := fun x hx => by simpa using hlt x hx
  have hfn' : s.fn H (ds ++ []) = { results := [.lit (.bool true)], args := ds } := by rw [List.append_nil]; exact hfn
  refine ⟨ds, [], p ++ [], [], p, [], hW0, ?_, ?_, ?_, World.keptBut_mono (fun x hx => ⟨hx, ?_⟩) (hb.frame (· ∈ p ++ [])), fun _ => ?_⟩
  · rw [hfn']; exact hres _ _ _
  · rw [hfn']; exact hargs _ hold
  · rw [hfn']; exact hvars _
  · rw [List.append_nil] at hx; exact Or.inr (.inl hx)
  · refine ⟨ok_one hr rfl (okWide_bool_mk hu _), _, _, ([] ++ p) ++ [], ⟨[] ++ p, [], trodAll_append (hargs _ (fun _ _ => rfl)) (hres _ _ _), hvars _, rfl, ?_, ?_⟩, ?_⟩
    · intro b off hx
      have hin : MemPlace.cell b off ∈ p := by simpa using hx
      rw [hb.frozen (p := ⟨b, off, none⟩) (hlt _ hin)]
      exact hfz b off (by simpa using hin)
    · intro ha
      simpa using hnd ha
    · intro x hx _
      simpa using hx
/-- A slice of int64 (or of int: the numbers are of the same kind), opened. -/
theorem open_slc {H : Type} {enc : TypeId × Value → H} {P : Program} {w : World} {base : Nat} {spare : Nat → Bool} {held : Bool} {r : Reach} {b0 : Nat} {t e : TypeId} {v : Value} {d : DataW H} {ps : List MemPlace} (ht : P.underlying t = some (.slice e)) (he : P.underlying e = some (.int .i64)) (hc : P.cellsOf e = 1)
    (hval : Value.okWide P w r b0 t v) (hd : DataW.Trod enc P w base spare held t v d ps) :
    ∃ p n cp L, v = .slice p n cp ∧ Slc w p n L ∧ n ≤ 9223372036854775807 ∧ ∀ i, -9223372036854775808 ≤ L i ∧ L i ≤ 9223372036854775807 := by
  obtain ⟨a, n, cp, rfl⟩ := okWide_slice ht hval
  obtain ⟨fuel, hf⟩ := hd
  rcases open_ints ht he hc hf with ⟨h0, _⟩ | ⟨ad, len, cap, zs, h0, _, hlc, hcm, hlen, _, hcell, hwf⟩
  · simp [Value.cells] at h0
    obtain ⟨rfl, rfl, rfl⟩ := h0
    exact ⟨none, 0, 0, fun _ => 0, rfl, fun i hi => by omega, by omega, fun _ => ⟨by show (-9223372036854775808 : Int) ≤ 0; omega, by show (0 : Int) ≤ 9223372036854775807; omega⟩⟩
  · simp [Value.cells] at h0
    obtain ⟨rfl, rfl, rfl⟩ := h0
    have hz : n ≤ zs.length := by rw [hlen]; split <;> omega
    refine ⟨some ad, n, cp, fun i => zs.getD i 0, rfl, fun i hi => ?_, by unfold maxLen at hcm; omega, fun i => ?_⟩
    · obtain ⟨b, off, rfl, hb⟩ := ints_at hcell (by omega)
      exact ⟨b, off, rfl, hb i (by omega)⟩
    · by_cases hi : i < zs.length
      · have := Go.bounds_i64 (hwf _ (List.getElem_mem hi))
        simpa [hi] using this
      · simp [List.getElem?_eq_none (by omega : zs.length ≤ i)]
section
variable {H : Type} {enc : TypeId × Value → H} {w : World} {base : Nat} {spare : Nat → Bool} {held : Bool}
theorem cells_of_size {P : Program} {t : TypeId} {n : Nat} (h : (P.info? t).map (·.size) = some n) : P.cellsOf t = n := by
  unfold Program.cellsOf
  cases e : P.info? t with
  | none => rw [e] at h; cases h
  | some i => rw [e] at h; simpa using h
theorem cells_i64 : Try.prog.cellsOf 2 = 1 := cells_of_size (by kernel_rfl)
theorem cells_col : Try.prog.cellsOf 26 = 24 := cells_of_size (by kernel_rfl)
theorem cells_int : Try.prog.cellsOf 3 = 1 := cells_of_size (by kernel_rfl)
theorem ints_i64 : Ints enc Try.prog w base spare held 2 := ints_int Try.underlying2
theorem ints_col : Ints enc Try.prog w base spare held 26 := ints_array (n := 24) (m := 1) Try.underlying26 cells_col cells_i64 ints_i64
theorem cells_st : Try.prog.cellsOf 27 = 24 := cells_of_size (by kernel_rfl)
theorem ints_st : Ints enc Try.prog w base spare held 27 := ints_array (n := 24) (m := 1) Try.underlying27 cells_st cells_i64 ints_i64
theorem own_knob : ownKnob Try.prog.godebug = none := by kernel_rfl
theorem laid_out : laidOutB Try.prog = true := by kernel_rfl
end
end Go.Proofs.Ytcbklolfibdffaa
