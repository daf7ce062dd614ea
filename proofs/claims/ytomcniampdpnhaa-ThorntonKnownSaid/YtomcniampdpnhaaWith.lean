/- Contract of thornton.With: Step with One and the noises given. -/
import Derived.Test.YtomcniampdpnhaaNew
import Derived.Laws.CopyOwn
namespace Go.Proofs.Ytomcniampdpnhaa
open Go.RowKit
set_option maxRecDepth 100000
open Go in
theorem run_load_row {P : Program} {o : Oper} {ev : Operand → Value} {w : World} (ty : TypeId) (x : Operand) (ho : o.op = .load ty x)
    (g : Nat) (hx : ev x = .pointer (some ⟨g, 0, none⟩)) (t : TypeId) (cs : Array Value) (fr : Nat × Nat) (d : TypeDesc) (hg : w.heap[g]? = some (.cells cs t fr))
    (hu : P.underlying ty = some d) (hd : (match d with | .struct _ | .array _ _ => true | _ => false) = true) (hi : (P.info? ty).map (·.size) = some cs.size) :
    (execOp ev o).run P w = .ok (.value (.agg cs)) w := by
  unfold execOp
  simp [ho, hx, Instr.loadAt, Instr.sureAddr, Sem.run_bind, run_loadVar_row (P := P) w g t ty cs fr d hg hu hd hi]
open Go in
theorem run_storeCells_row {P : Program} {w : World} {g T n : Nat} {f : Nat → Int} (F : Nat → Int) (h : Blk w g T n f) :
    (storeCells ⟨g, 0, none⟩ (arrv n F).toList).run P w = .ok () (w.setRow g (arrv n F)) := by
  have e := run_storeCells_at (P := P) g 0 T (arrv n F).toList 0 (arrv n f) w h (by simp [arrv_size]) (fun v hv => (Array.all_eq_true'.1 (oneCell_arrv n F)) v (by simpa using hv))
  rw [e]
  congr 2
  simp only [Nat.zero_add, Nat.add_zero, List.take_zero, List.nil_append, Array.length_toList, arrv_size]
  rw [List.drop_of_length_le (by simp [arrv_size]), List.append_nil, Array.toArray_toList]
theorem icol : (Try.prog.info? 23).map (·.size) = some 24 := by kernel_rfl
/-- The numbers copied into 24 noughts. -/
def copyF (n : Nat) (L : Nat → Int) : Nat → Int := fun i => if i < n then L i else 0
def copyL (n : Nat) (L : Nat → Int) : List Value := (List.range (min n 24)).map fun i => .int .i64 (L i)
theorem length_copyL (n : Nat) (L : Nat → Int) : (copyL n L).length = min n 24 := by simp [copyL]
theorem copyL_get {n : Nat} {L : Nat → Int} {j : Nat} {v : Value} (h : (copyL n L)[j]? = some v) : j < n ∧ v = .int .i64 (L j) := by
  simp only [copyL, List.getElem?_map, Option.map_eq_some_iff] at h
  obtain ⟨x, hx, rfl⟩ := h
  obtain ⟨h1, h2⟩ := List.getElem?_eq_some_iff.1 hx
  simp at h1 h2
  subst h2
  exact ⟨by omega, rfl⟩
theorem splice_copy (n : Nat) (L : Nat → Int) : (splice (arrv 24 (fun _ => 0)).toList 0 (copyL n L)).toArray = arrv 24 (copyF n L) := by
  apply Array.ext_getElem?
  intro i
  simp only [splice, List.take_zero, List.nil_append, Nat.zero_add, length_copyL, List.getElem?_toArray, List.getElem?_append, List.getElem?_drop, Array.getElem?_toList]
  by_cases hi : i < 24
  · rw [arrv_get (f := copyF n L) hi]
    split
    · rename_i h
      have : i < n := by omega
      simp [copyL, copyF, this, h]
    · rename_i h
      rw [show min n 24 + (i - min n 24) = i by omega, arrv_get hi]
      have : ¬ i < n := by omega
      simp [copyF, this]
  · rw [Array.getElem?_eq_none (xs := arrv 24 (copyF n L)) (by rw [arrv_size]; omega)]
    rw [if_neg (by omega), Array.getElem?_eq_none (by rw [arrv_size]; omega)]
set_option maxHeartbeats 4000000 in
theorem with_any (c : Addr) (h : Bool) (f : Nat → Int) (p : Option Addr) (n cp : Nat) (L : Nat → Int) (w : World) (hc : w.cell? c = some (.bool h)) (hf : w.frozen? c = false) (hL : Slc w p n L) :
    Calls Try.prog 9 #[.pointer (some c), .agg (arrv 300 f), .slice p n cp] w fun e w' =>
      e = .returned (.agg (arrv 300 (stepF f oneF (copyF n L)))) ∧ Upd c (h || stepH f oneF (copyF n L)) w w' := by
  have hcb := World.block_lt_of_cell? w c hc
  have HC := Lib.hid hc
  have HF := Lib.hid hf
  have HL := Lib.hid hL
  clear hc hf hL
  go_enter Try.func9, Try.ntmps9
  go_upto_region 2 with fail
  rw [zcov, zcol]
  have U0 := Lib.hid (Upd.then (Upd.refl HC.out) (show Below w.heap.size w (((w.alloc (.cells (arrv 300 f) 25)).alloc (.cells (arrv 300 (fun _ => 0)) 25)).alloc (.cells (arrv 24 (fun _ => 0)) 23)) by (repeat (first | with_reducible exact Below.refl _ _ | with_reducible apply Below.drew | (with_reducible refine below_drewN ?_ _) | (with_reducible refine Below.alloc ?_ (by (try simp) <;> omega) _) | (with_reducible refine Below.setCell ?_ (by (try simp) <;> omega) _)))))
  have B0 := Lib.hid (show Blk (((w.alloc (.cells (arrv 300 f) 25)).alloc (.cells (arrv 300 (fun _ => 0)) 25)).alloc (.cells (arrv 24 (fun _ => 0)) 23)) w.heap.size 25 300 f from ((Blk.new w _ _ _).alloc _).alloc _)
  have B1 := Lib.hid (show Blk (((w.alloc (.cells (arrv 300 f) 25)).alloc (.cells (arrv 300 (fun _ => 0)) 25)).alloc (.cells (arrv 24 (fun _ => 0)) 23)) (w.heap.size + 1) 25 300 (fun _ => 0) from (Blk.new1 w _ _ _ _).alloc _)
  have B2 := Lib.hid (blk_new2 w (.cells (arrv 300 f) 25) (.cells (arrv 300 (fun _ => 0)) 25) 23 24 (fun _ => 0))
  have hsz : (((w.alloc (.cells (arrv 300 f) 25)).alloc (.cells (arrv 300 (fun _ => 0)) 25)).alloc (.cells (arrv 24 (fun _ => 0)) 23)).heap.size = w.heap.size + 1 + 1 + 1 := by simp
  generalize (((w.alloc (.cells (arrv 300 f) 25)).alloc (.cells (arrv 300 (fun _ => 0)) 25)).alloc (.cells (arrv 24 (fun _ => 0)) 23)) = w1 at *
  have q1 := Lib.hid (show (Try.prog.info? 2).map (·.size) = some 1 by kernel_rfl)
  have q2 := Lib.hid (show w1.heap[w.heap.size + 1 + 1]? = some (.cells (arrv 24 (fun _ => 0)).toList.toArray 23 (0, 0)) by rw [Array.toArray_toList]; exact B2.out)
  have q3 := Lib.hid (length_copyL n L)
  have q4 : Hid (0 < (copyL n L).length → some (⟨w.heap.size + 1 + 1, 0, none⟩ : Addr) = some ⟨w.heap.size + 1 + 1, 0, none⟩ ∧ ∃ ad, p = some ad ∧ ∀ (j : Nat) (v : Value), (copyL n L)[j]? = some v → w1.cell? (ad.add j) = some v) := by
    intro hp
    refine ⟨rfl, ?_⟩
    rw [length_copyL] at hp
    obtain ⟨b, o, rfl, _⟩ := HL.out 0 (by omega)
    refine ⟨_, rfl, fun j v hv => ?_⟩
    obtain ⟨hj, rfl⟩ := copyL_get hv
    obtain ⟨b', o', he, hcell⟩ := HL.out j hj
    injection he with he
    injection he with he1 he2
    subst he1 he2
    have : (⟨b, o, none⟩ : Addr).add j = ⟨b, o + j, none⟩ := by simp [Addr.add]
    rw [this]
    exact (U0.out.cell (World.block_lt_of_cell? _ _ hcell) (fun e => by rw [← e, HC.out] at hcell; cases hcell)).trans hcell
  have q5 := Lib.hid (show 0 + (copyL n L).length ≤ (arrv 24 (fun _ => 0)).toList.length by rw [length_copyL]; simp [arrv_size]; omega)
  have q6 := Lib.hid (show ∀ v ∈ copyL n L, v.oneCell' = true from fun v hv => by simp only [copyL, List.mem_map] at hv; obtain ⟨x, _, rfl⟩ := hv; rfl)
  go_wp2_with (refine wpList_copy_splice (o := ⟨some 10, _, _, _, _, _⟩) rfl (.tmp 8) (.tmp 9) 28 28 rfl 2 rfl q1.out (some ⟨w.heap.size + 1 + 1, 0, none⟩) p 24 24 n cp rfl rfl (w.heap.size + 1 + 1) 0 _ 23 q2.out (copyL n L) q3.out q4.out q5.out q6.out (w.heap.size + 1 + 1) w1 (Below.refl _ _) (Nat.le_refl _) ?_; intro w2 HG2 hB2)
  have U2 := Lib.hid (U0.out.then' (hB2.mono (by omega)))
  have X0 : w2.heap[w.heap.size]? = some (.cells (arrv 300 f) 25 (0, 0)) := (hB2.block _ (by omega)).trans B0.out
  have X1 : Blk w2 (w.heap.size + 1) 25 300 (fun _ => 0) := (hB2.block _ (by omega)).trans B1.out
  have X2 : w2.heap[w.heap.size + 1 + 1]? = some (.cells (arrv 24 (copyF n L)) 23 (0, 0)) := by have := HG2.out; rwa [splice_copy] at this
  have H1 := Lib.hid X1
  have rc := U2.out.cellc HC.out
  have rf := (U2.out.frozen hcb).trans HF.out
  have hsz2 : w2.heap.size ≥ w.heap.size + 1 + 1 + 1 := by have := hB2.size; omega
  clear q1 q2 q3 q4 q5 q6 HG2 U0 B0 B1 B2 hsz X1
  refine wp_region_M (fun w' => w'.heap[w.heap.size]? = some (.cells (arrv 300 f) 25 (0, 0)) ∧ w'.heap[w.heap.size + 1 + 1]? = some (.cells (arrv 24 (copyF n L)) 23 (0, 0))) 5 (by kernel_rfl) ?_ (fun hHeld => ?_)
  · exact ⟨X0, X2⟩
  refine wpAnyM_take 0 (v := ?_) rfl (by kernel_rfl) (fun _ _ _ h => h) (Or.inl ⟨by rfl, ?_⟩) (by assumption) ?_
  rotate_left
  · (intro wx hSw; (try dsimp only at hSw); go_simp; (try with_reducible rfl))
  (try simp only [Act.put, List.setIfInBounds_toArray, List.set_cons_zero, List.set_cons_succ])
  refine wpAnyM_take 1 (v := ?_) rfl (by kernel_rfl) (fun _ _ _ h => h) (Or.inl ⟨by rfl, ?_⟩) (by assumption) ?_
  rotate_left
  · (intro wx hSw; refine Eq.trans (run_load_row 25 (.tmp 4) (by rfl) w.heap.size (by rfl) _ _ _ _ hSw.1 Try.underlying25 rfl (icov.trans (by rw [arrv_size]))) ?_; with_reducible rfl)
  (try simp only [Act.put, List.setIfInBounds_toArray, List.set_cons_zero, List.set_cons_succ])
  refine wpAnyM_take 3 (v := ?_) rfl (by kernel_rfl) (fun _ _ _ h => h) (Or.inl ⟨by rfl, ?_⟩) (by assumption) ?_
  rotate_left
  · (intro wx hSw; refine Eq.trans (run_load_row 23 (.tmp 7) (by rfl) (w.heap.size + 1 + 1) (by rfl) _ _ _ _ hSw.2 Try.underlying23 rfl (icol.trans (by rw [arrv_size]))) ?_; with_reducible rfl)
  (try simp only [Act.put, List.setIfInBounds_toArray, List.set_cons_zero, List.set_cons_succ])
  refine wpAnyM_oneS 2 rfl (by kernel_rfl) (fun K hK => ?_)
  go_simp
  (refine (one_any _).mono ?_); rintro e w3 ⟨rfl, hb3⟩; have hb3' : Below w2.heap.size w2 w3 := Below.after (Below.drew (Below.refl _ _)) hb3; have kp := And.intro ((hb3'.block w.heap.size (by omega)).trans X0) ((hb3'.block (w.heap.size + 1 + 1) (by omega)).trans X2); have kc := (hb3'.cell (World.block_lt_of_cell? _ _ rc)).trans rc; have kf := (hb3'.frozen (World.block_lt_of_cell? _ _ rc)).trans rf; have HB3 := Lib.hid hb3'
  (try dsimp only)
  (try simp only [Act.put, List.setIfInBounds_toArray, List.set_cons_zero, List.set_cons_succ])
  clear hHeld
  refine hK.out _ _ ?_ (fun hHeld => ?_)
  · exact kp
  clear hK K
  (try simp only [Act.put, List.setIfInBounds_toArray, List.set_cons_zero, List.set_cons_succ])
  refine wpAnyM_oneS 4 rfl (by kernel_rfl) (fun K hK => ?_)
  go_simp
  (refine (step_any c h f oneF (copyF n L) _ kc kf).mono ?_); rintro e w4 ⟨rfl, hu4⟩; have hs3 := HB3.out.size; have kp2 := And.intro ((hu4.block (k := w.heap.size) (by omega) (by omega)).trans kp.1) ((hu4.block (k := w.heap.size + 1 + 1) (by omega) (by omega)).trans kp.2); have HR1 := Lib.hid ((H1.out.below HB3.out).upd hu4 (by omega)); have HU4 := Lib.hid hu4
  (try dsimp only)
  (try simp only [Act.put, List.setIfInBounds_toArray, List.set_cons_zero, List.set_cons_succ])
  clear hHeld
  refine hK.out _ _ ?_ (fun hHeld => ?_)
  · exact kp2
  clear hK K
  (try simp only [Act.put, List.setIfInBounds_toArray, List.set_cons_zero, List.set_cons_succ])
  refine wpAnyM_one 5 rfl (by kernel_rfl) (fun K hK => ?_)
  go_simp; rw [if_pos (arrv_size _ _), run_storeCells_row _ HR1.out]; go_simp
  refine hK.out _ _ (.inl (by kernel_rfl)) (fun _ => ?_)
  clear hK K
  (try simp only [Act.put, List.setIfInBounds_toArray, List.set_cons_zero, List.set_cons_succ])
  refine wpAnyM_done (by kernel_rfl) ?_ _
  have R1 := HR1.out
  go_wp2_with fail
  refine bodyPost_ret (results_cell_row Try.results9 _ _ (w.heap.size + 1) 25 (arrv 300 (stepF f oneF (copyF n L))) (0, 0) _ rfl (setRow_heap _ _ _ _ _ _ R1) Try.underlying25 rfl (icov.trans (by rw [arrv_size]))) rfl ⟨rfl, ?_⟩
  exact (((U2.out.then (HB3.out)).trans HU4.out)).then' (below_row (Below.refl _ _) (by omega) _)
end Go.Proofs.Ytomcniampdpnhaa
