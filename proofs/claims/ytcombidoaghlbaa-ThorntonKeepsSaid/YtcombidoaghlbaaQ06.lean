/- Contracts of the program's functions and plain laws, part 6: they hold for all arguments. -/
import Derived.Test.YtcombidoaghlbaaQ04
import Derived.Laws.CopyOwn
import Derived.Test.YtcombidoaghlbaaQ05
import Derived.ChangeKeysEq
import Derived.Laws.StructEq
import Derived.Laws.Tables
/- A whole row of numbers loaded or stored, inside a region that draws its order. -/
namespace Go.Proofs.Ytcombidoaghlbaa
open Go.RowKit
set_option maxRecDepth 100000
open Go in
theorem run_load_row {P : Program} {o : Oper} {ev : Operand → Value} {w : World} (ty : TypeId) (x : Operand) (ho : o.op = .load ty x)
    (g : Nat) (hx : ev x = .pointer (some ⟨g, 0, none⟩)) (t : TypeId) (cs : Array Value) (fr : Nat × Nat) (d : TypeDesc) (hg : w.heap[g]? = some (.cells cs t fr))
    (hu : P.underlying ty = some d) (hd : (match d with | .struct _ | .array _ _ => true | _ => false) = true) (hi : (P.info? ty).map (·.size) = some cs.size) :
    (execOp ev o).run P w = .ok (.value (.agg cs)) w := by
  unfold execOp
  simp [ho, hx, Instr.loadAt, Instr.sureAddr, Sem.run_bind, run_loadVar_row (P := P) w g t ty cs fr d hg hu hd hi]
open Go in
theorem run_storeCells_row {P : Program} {w : World} {g T n : Nat} {f : Nat → Int} (F : Nat → Int) (h : Blk w g T n f) :
    (storeCells ⟨g, 0, none⟩ (arrv n F).toList).run P w = .ok () (w.setRow g (arrv n F)) := by
  have e := run_storeCells_at (P := P) g 0 T (arrv n F).toList 0 (arrv n f) w h (by simp [arrv_size]) (fun v hv => (Array.all_eq_true'.1 (oneCell_arrv n F)) v (by simpa using hv))
  rw [e]
  congr 2
  simp only [Nat.zero_add, Nat.add_zero, List.take_zero, List.nil_append, Array.length_toList, arrv_size]
  rw [List.drop_of_length_le (by simp [arrv_size]), List.append_nil, Array.toArray_toList]
theorem icol : (Try.prog.info? 23).map (·.size) = some 24 := by kernel_rfl
/-- A slice of int64: n numbers from a pointer, or none. -/
def Slc (w : World) (p : Option Addr) (n : Nat) (L : Nat → Int) : Prop := ∀ i, i < n → ∃ b o, p = some ⟨b, o, none⟩ ∧ w.cell? ⟨b, o + i, none⟩ = some (.int .i64 (L i))
theorem Slc.below {w w' : World} {p : Option Addr} {n : Nat} {L : Nat → Int} (h : Slc w p n L) (b : Below w.heap.size w w') : Slc w' p n L := fun i hi => by
  obtain ⟨k, o, rfl, hc⟩ := h i hi
  exact ⟨k, o, rfl, (b.cell (World.block_lt_of_cell? _ _ hc)).trans hc⟩
section
open Go
end
end Go.Proofs.Ytcombidoaghlbaa
/- Contract of tri.New: noughts above the diagonal, the variances given, and the least variance where none is given. -/
namespace Go.Proofs.Ytcombidoaghlbaa
open Go.RowKit
set_option maxRecDepth 100000
def newF (n : Nat) (L : Nat → Int) : Nat → Int := fun i => if i < 276 then 0 else if i - 276 < n then varV (L (i - 276)) else 1
def newB (n : Nat) (L : Nat → Int) (i : Nat) : Bool := if i < n then varH (L i) else false
def newH (n : Nat) (L : Nat → Int) : Bool := orB (newB n L) 24
def newI (n : Nat) (L : Nat → Int) (k : Nat) : Nat → Int := fun i => if i < 276 then 0 else if i < 276 + k then (if i - 276 < n then varV (L (i - 276)) else 1) else 0
theorem new_any (c : Addr) (h : Bool) (p : Option Addr) (n cp : Nat) (L : Nat → Int) (w : World) (hc : w.cell? c = some (.bool h)) (hf : w.frozen? c = false) (hL : Slc w p n L) :
    Calls Try.prog 20 #[.pointer (some c), .slice p n cp] w fun e w' => e = .returned (.agg (arrv 300 (newF n L))) ∧ Upd c (h || newH n L) w w' := by
  have hcb := World.block_lt_of_cell? w c hc
  have HC := Lib.hid hc
  have HF := Lib.hid hf
  have HL := Lib.hid hL
  clear hc hf hL
  go_enter Try.func20, Try.ntmps20
  go_wp2_with fail
  go_loopw [7] (fun i wr => ∃ k : Nat, k ≤ 24 ∧ i = .int .i64 k ∧ Hid (Upd c (h || orB (newB n L) k) w wr ∧ Blk wr w.heap.size 25 300 (fun _ => 0) ∧ Blk wr (w.heap.size + 1) 25 300 (newI n L k))) (fun i _ => 24 - (intOf i).toNat)
  case atStart =>
    refine ⟨0, by omega, rfl, ?_, ?_, ?_⟩
    · rw [show (h || orB (newB n L) 0) = h from by simp [orB]]
      exact Upd.then (Upd.refl HC.out) (by (repeat (first | with_reducible exact Below.refl _ _ | with_reducible apply Below.drew | (with_reducible refine below_drewN ?_ _) | (with_reducible refine Below.alloc ?_ (by (try simp) <;> omega) _) | (with_reducible refine Below.setCell ?_ (by (try simp) <;> omega) _))))
    · rw [zcov]; exact (Blk.new w _ _ _).alloc _
    · rw [zcov]; exact (Blk.new1 w _ _ _ _).congr fun i hi => by simp only [newI]; split <;> first | rfl | (rw [if_neg (by omega)])
  case round =>
    obtain ⟨k, hk, rfl, R⟩ := hrel
    by_cases hlt : k < 24
    · have d1 : decide ((k : Int) < 24) = true := by simp; omega
      have b0 := R.out.2.2.cell (i := 276 + k) (by omega)
      have b1 := R.out.2.2.free (276 + k)
      by_cases hkn : k < n
      · have d2 : decide ((k : Int) < (n : Int)) = true := by simp; omega
        obtain ⟨pb, po, rfl, hcell⟩ := HL.out k hkn
        have hne : (⟨pb, po + k, none⟩ : Addr) ≠ c := fun e => by rw [e, HC.out] at hcell; cases hcell
        have hpl := World.block_lt_of_cell? _ _ hcell
        have U1 : Upd c (h || orB (newB n L) k) w (wr.setCell ⟨w.heap.size + 1, 276 + k, none⟩ (.int .i64 1)) := R.out.1.setCell (by simp) _
        have rc := U1.cellc HC.out
        have rf := (U1.frozen hcb).trans HF.out
        have hcell' : wr.cell? ⟨pb, po + k, none⟩ = some (.int .i64 (L k)) := (R.out.1.cell hpl (Ne.symm hne)).trans hcell
        have hpn : pb ≠ w.heap.size + 1 := by simp at hpl; omega
        have hcell2 : (wr.setCell ⟨w.heap.size + 1, 276 + k, none⟩ (.int .i64 1)).cell? ⟨pb, po + k, none⟩ = some (.int .i64 (L k)) := (World.cell?_setCell_other _ _ _ _ (by intro e; injection e; omega)).trans hcell'
        have CC := Lib.hid (variance_any c _ (L k) _ rc rf)
        have S0 := Lib.hid (R.out.2.2.set (276 + k) 1)
        have T0 := Lib.hid (R.out.2.1.other (a := ⟨w.heap.size + 1, 276 + k, none⟩) (by simp) (.int .i64 1))
        have HU1 := Lib.hid U1
        clear U1 rc rf hcell' R
        go_wp2_with (go_at_call 35; refine CC.out.mono ?_; rintro e w' ⟨rfl, hw'⟩; have U3 := (Upd.set c (h || orB (newB n L) k || varH (L k)) (wr.setCell ⟨w.heap.size + 1, 276 + k, none⟩ (.int .i64 1))).then (by rw [show varH (L k) = clampH (L k) 1 72057594037927936 from rfl, hw']; exact Below.refl _ _); have HU2 := Lib.hid (HU1.out.trans U3); have S2 := S0.out.upd U3 (by have := hcb; omega); have HR2 := Lib.hid (T0.out.upd U3 (by have := hcb; omega)); have c0 := S2.cell (i := 276 + k) (by omega); have c1 := S2.free (276 + k); have HS2 := Lib.hid S2; clear hw' U3 S2)
        go_roundw
        case rel =>
          refine ⟨k + 1, by omega, by go_num, ?_, HR2.out.other (by simp) _, ?_⟩
          · rw [show (h || orB (newB n L) (k + 1)) = (h || orB (newB n L) k || varH (L k)) from by simp [orB, newB, hkn, Bool.or_assoc]]
            exact HU2.out.setCell (by simp) _
          · refine (HS2.out.set _ _).congr fun i hi => ?_
            simp only [Go.Proofs.Ytcombidoaghlbaa.upd, newI]
            by_cases h1 : i = 276 + k
            · subst h1; rw [if_pos rfl, if_neg (by omega), if_pos (by omega), show 276 + k - 276 = k by omega, if_pos hkn]; rfl
            · rw [if_neg h1, if_neg h1]; split <;> first | rfl | (split <;> split <;> first | rfl | omega)
        case measure => simp [intOf]; omega
      · have d2 : decide ((k : Int) < (n : Int)) = false := by simp; omega
        go_wp2_with fail
        go_roundw
        case rel =>
          refine ⟨k + 1, by omega, by go_num, ?_, R.out.2.1.other (by simp) _, ?_⟩
          · rw [show (h || orB (newB n L) (k + 1)) = (h || orB (newB n L) k) from by simp [orB, newB, hkn]]
            exact R.out.1.setCell (by simp) _
          · refine (R.out.2.2.set _ _).congr fun i hi => ?_
            simp only [Go.Proofs.Ytcombidoaghlbaa.upd, newI]
            by_cases h1 : i = 276 + k
            · subst h1; rw [if_pos rfl, if_neg (by omega), if_pos (by omega), show 276 + k - 276 = k by omega, if_neg hkn]
            · rw [if_neg h1]; split; rfl; split <;> split <;> first | rfl | omega
        case measure => simp [intOf]; omega
    · have hk24 : k = 24 := by omega
      subst hk24
      have B0 := R.out.2.1
      have B1 := R.out.2.2
      have HB := Lib.hid R.out.1
      clear R hlt hk
      rw [show ((24 : Nat) : Int) = 24 from rfl]
      go_wp2_with (first | (refine wpList_load_row rfl 25 _ rfl (w.heap.size + 1) rfl 25 _ (0, 0) _ B1 Try.underlying25 rfl (icov.trans (by rw [arrv_size])) ?_) | (refine wpList_store_row rfl 25 _ _ rfl w.heap.size _ rfl rfl 25 _ B0 (icov.trans (by rw [arrv_size])) (by rw [arrv_size, arrv_size]) (oneCell_arrv _ _) ?_))
      refine bodyPost_ret (results_cell_row Try.results20 _ _ w.heap.size 25 (arrv 300 (newI n L 24)) (0, 0) _ rfl (setRow_heap _ _ _ _ _ _ B0) Try.underlying25 rfl (icov.trans (by rw [arrv_size]))) rfl ⟨?_, ?_⟩
      · rw [arrv_congr (g := newF n L) fun i hi => by simp only [newI, newF]; split <;> first | rfl | (rw [if_pos (by omega)])]
      · exact HB.out.then' (below_row (Below.refl _ _) (Nat.le_refl _) _)
end Go.Proofs.Ytcombidoaghlbaa
/- Contract of thornton.With: Step with One and the noises given. -/
namespace Go.Proofs.Ytcombidoaghlbaa
open Go.RowKit
set_option maxRecDepth 100000
/-- The numbers copied into 24 noughts. -/
def copyF (n : Nat) (L : Nat → Int) : Nat → Int := fun i => if i < n then L i else 0
def copyL (n : Nat) (L : Nat → Int) : List Value := (List.range (min n 24)).map fun i => .int .i64 (L i)
theorem length_copyL (n : Nat) (L : Nat → Int) : (copyL n L).length = min n 24 := by simp [copyL]
theorem copyL_get {n : Nat} {L : Nat → Int} {j : Nat} {v : Value} (h : (copyL n L)[j]? = some v) : j < n ∧ v = .int .i64 (L j) := by
  simp only [copyL, List.getElem?_map, Option.map_eq_some_iff] at h
  obtain ⟨x, hx, rfl⟩ := h
  obtain ⟨h1, h2⟩ := List.getElem?_eq_some_iff.1 hx
  simp at h1 h2
  subst h2
  exact ⟨by omega, rfl⟩
theorem splice_copy (n : Nat) (L : Nat → Int) : (splice (arrv 24 (fun _ => 0)).toList 0 (copyL n L)).toArray = arrv 24 (copyF n L) := by
  apply Array.ext_getElem?
  intro i
  simp only [splice, List.take_zero, List.nil_append, Nat.zero_add, length_copyL, List.getElem?_toArray, List.getElem?_append, List.getElem?_drop, Array.getElem?_toList]
  by_cases hi : i < 24
  · rw [arrv_get (f := copyF n L) hi]
    split
    · rename_i h
      have : i < n := by omega
      simp [copyL, copyF, this, h]
    · rename_i h
      rw [show min n 24 + (i - min n 24) = i by omega, arrv_get hi]
      have : ¬ i < n := by omega
      simp [copyF, this]
  · rw [Array.getElem?_eq_none (xs := arrv 24 (copyF n L)) (by rw [arrv_size]; omega)]
    rw [if_neg (by omega), Array.getElem?_eq_none (by rw [arrv_size]; omega)]
set_option maxHeartbeats 4000000 in
theorem with_any (c : Addr) (h : Bool) (f : Nat → Int) (p : Option Addr) (n cp : Nat) (L : Nat → Int) (w : World) (hc : w.cell? c = some (.bool h)) (hf : w.frozen? c = false) (hL : Slc w p n L) :
    Calls Try.prog 19 #[.pointer (some c), .agg (arrv 300 f), .slice p n cp] w fun e w' =>
      e = .returned (.agg (arrv 300 (stepF f oneF (copyF n L)))) ∧ Upd c (h || stepH f oneF (copyF n L)) w w' := by
  have hcb := World.block_lt_of_cell? w c hc
  have HC := Lib.hid hc
  have HF := Lib.hid hf
  have HL := Lib.hid hL
  clear hc hf hL
  go_enter Try.func19, Try.ntmps19
  go_upto_region 2 with fail
  rw [zcov, zcol]
  have U0 := Lib.hid (Upd.then (Upd.refl HC.out) (show Below w.heap.size w (((w.alloc (.cells (arrv 300 f) 25)).alloc (.cells (arrv 300 (fun _ => 0)) 25)).alloc (.cells (arrv 24 (fun _ => 0)) 23)) by (repeat (first | with_reducible exact Below.refl _ _ | with_reducible apply Below.drew | (with_reducible refine below_drewN ?_ _) | (with_reducible refine Below.alloc ?_ (by (try simp) <;> omega) _) | (with_reducible refine Below.setCell ?_ (by (try simp) <;> omega) _)))))
  have B0 := Lib.hid (show Blk (((w.alloc (.cells (arrv 300 f) 25)).alloc (.cells (arrv 300 (fun _ => 0)) 25)).alloc (.cells (arrv 24 (fun _ => 0)) 23)) w.heap.size 25 300 f from ((Blk.new w _ _ _).alloc _).alloc _)
  have B1 := Lib.hid (show Blk (((w.alloc (.cells (arrv 300 f) 25)).alloc (.cells (arrv 300 (fun _ => 0)) 25)).alloc (.cells (arrv 24 (fun _ => 0)) 23)) (w.heap.size + 1) 25 300 (fun _ => 0) from (Blk.new1 w _ _ _ _).alloc _)
  have B2 := Lib.hid (blk_new2 w (.cells (arrv 300 f) 25) (.cells (arrv 300 (fun _ => 0)) 25) 23 24 (fun _ => 0))
  have hsz : (((w.alloc (.cells (arrv 300 f) 25)).alloc (.cells (arrv 300 (fun _ => 0)) 25)).alloc (.cells (arrv 24 (fun _ => 0)) 23)).heap.size = w.heap.size + 1 + 1 + 1 := by simp
  generalize (((w.alloc (.cells (arrv 300 f) 25)).alloc (.cells (arrv 300 (fun _ => 0)) 25)).alloc (.cells (arrv 24 (fun _ => 0)) 23)) = w1 at *
  have q1 := Lib.hid (show (Try.prog.info? 2).map (·.size) = some 1 by kernel_rfl)
  have q2 := Lib.hid (show w1.heap[w.heap.size + 1 + 1]? = some (.cells (arrv 24 (fun _ => 0)).toList.toArray 23 (0, 0)) by rw [Array.toArray_toList]; exact B2.out)
  have q3 := Lib.hid (length_copyL n L)
  have q4 : Hid (0 < (copyL n L).length → some (⟨w.heap.size + 1 + 1, 0, none⟩ : Addr) = some ⟨w.heap.size + 1 + 1, 0, none⟩ ∧ ∃ ad, p = some ad ∧ ∀ (j : Nat) (v : Value), (copyL n L)[j]? = some v → w1.cell? (ad.add j) = some v) := by
    intro hp
    refine ⟨rfl, ?_⟩
    rw [length_copyL] at hp
    obtain ⟨b, o, rfl, _⟩ := HL.out 0 (by omega)
    refine ⟨_, rfl, fun j v hv => ?_⟩
    obtain ⟨hj, rfl⟩ := copyL_get hv
    obtain ⟨b', o', he, hcell⟩ := HL.out j hj
    injection he with he
    injection he with he1 he2
    subst he1 he2
    have : (⟨b, o, none⟩ : Addr).add j = ⟨b, o + j, none⟩ := by simp [Addr.add]
    rw [this]
    exact (U0.out.cell (World.block_lt_of_cell? _ _ hcell) (fun e => by rw [← e, HC.out] at hcell; cases hcell)).trans hcell
  have q5 := Lib.hid (show 0 + (copyL n L).length ≤ (arrv 24 (fun _ => 0)).toList.length by rw [length_copyL]; simp [arrv_size]; omega)
  have q6 := Lib.hid (show ∀ v ∈ copyL n L, v.oneCell' = true from fun v hv => by simp only [copyL, List.mem_map] at hv; obtain ⟨x, _, rfl⟩ := hv; rfl)
  go_wp2_with (refine wpList_copy_splice (o := ⟨some 10, _, _, _, _, _⟩) rfl (.tmp 8) (.tmp 9) 34 34 rfl 2 rfl q1.out (some ⟨w.heap.size + 1 + 1, 0, none⟩) p 24 24 n cp rfl rfl (w.heap.size + 1 + 1) 0 _ 23 q2.out (copyL n L) q3.out q4.out q5.out q6.out (w.heap.size + 1 + 1) w1 (Below.refl _ _) (Nat.le_refl _) ?_; intro w2 HG2 hB2)
  have U2 := Lib.hid (U0.out.then' (hB2.mono (by omega)))
  have X0 : w2.heap[w.heap.size]? = some (.cells (arrv 300 f) 25 (0, 0)) := (hB2.block _ (by omega)).trans B0.out
  have X1 : Blk w2 (w.heap.size + 1) 25 300 (fun _ => 0) := (hB2.block _ (by omega)).trans B1.out
  have X2 : w2.heap[w.heap.size + 1 + 1]? = some (.cells (arrv 24 (copyF n L)) 23 (0, 0)) := by have := HG2.out; rwa [splice_copy] at this
  have H1 := Lib.hid X1
  have rc := U2.out.cellc HC.out
  have rf := (U2.out.frozen hcb).trans HF.out
  have hsz2 : w2.heap.size ≥ w.heap.size + 1 + 1 + 1 := by have := hB2.size; omega
  clear q1 q2 q3 q4 q5 q6 HG2 U0 B0 B1 B2 hsz X1
  refine wp_region_M (fun w' => w'.heap[w.heap.size]? = some (.cells (arrv 300 f) 25 (0, 0)) ∧ w'.heap[w.heap.size + 1 + 1]? = some (.cells (arrv 24 (copyF n L)) 23 (0, 0))) 5 (by kernel_rfl) ?_ (fun hHeld => ?_)
  · exact ⟨X0, X2⟩
  refine wpAnyM_take 0 (v := ?_) rfl (by kernel_rfl) (fun _ _ _ h => h) (Or.inl ⟨by rfl, ?_⟩) (by assumption) ?_
  rotate_left
  · (intro wx hSw; (try dsimp only at hSw); go_simp; (try with_reducible rfl))
  (try simp only [Act.put, nA, nB, nC])
  refine wpAnyM_take 1 (v := ?_) rfl (by kernel_rfl) (fun _ _ _ h => h) (Or.inl ⟨by rfl, ?_⟩) (by assumption) ?_
  rotate_left
  · (intro wx hSw; refine Eq.trans (run_load_row 25 (.tmp 4) (by rfl) w.heap.size (by rfl) _ _ _ _ hSw.1 Try.underlying25 rfl (icov.trans (by rw [arrv_size]))) ?_; with_reducible rfl)
  (try simp only [Act.put, nA, nB, nC])
  refine wpAnyM_take 3 (v := ?_) rfl (by kernel_rfl) (fun _ _ _ h => h) (Or.inl ⟨by rfl, ?_⟩) (by assumption) ?_
  rotate_left
  · (intro wx hSw; refine Eq.trans (run_load_row 23 (.tmp 7) (by rfl) (w.heap.size + 1 + 1) (by rfl) _ _ _ _ hSw.2 Try.underlying23 rfl (icol.trans (by rw [arrv_size]))) ?_; with_reducible rfl)
  (try simp only [Act.put, nA, nB, nC])
  refine wpAnyM_oneS 2 rfl (by kernel_rfl) (fun K hK => ?_)
  go_simp
  (refine (one_any _).mono ?_); rintro e w3 ⟨rfl, hb3⟩; have hb3' : Below w2.heap.size w2 w3 := Below.after (Below.drew (Below.refl _ _)) hb3; have kp := And.intro ((hb3'.block w.heap.size (by omega)).trans X0) ((hb3'.block (w.heap.size + 1 + 1) (by omega)).trans X2); have kc := (hb3'.cell (World.block_lt_of_cell? _ _ rc)).trans rc; have kf := (hb3'.frozen (World.block_lt_of_cell? _ _ rc)).trans rf; have HB3 := Lib.hid hb3'
  (try dsimp only)
  (try simp only [Act.put, nA, nB, nC])
  clear hHeld
  refine hK.out _ _ ?_ (fun hHeld => ?_)
  · exact kp
  clear hK K
  (try simp only [Act.put, nA, nB, nC])
  refine wpAnyM_oneS 4 rfl (by kernel_rfl) (fun K hK => ?_)
  go_simp
  (refine (step_any c h f oneF (copyF n L) _ kc kf).mono ?_); rintro e w4 ⟨rfl, hu4⟩; have hs3 := HB3.out.size; have kp2 := And.intro ((hu4.block (k := w.heap.size) (by omega) (by omega)).trans kp.1) ((hu4.block (k := w.heap.size + 1 + 1) (by omega) (by omega)).trans kp.2); have HR1 := Lib.hid ((H1.out.below HB3.out).upd hu4 (by omega)); have HU4 := Lib.hid hu4
  (try dsimp only)
  (try simp only [Act.put, nA, nB, nC])
  clear hHeld
  refine hK.out _ _ ?_ (fun hHeld => ?_)
  · exact kp2
  clear hK K
  (try simp only [Act.put, nA, nB, nC])
  refine wpAnyM_one 5 rfl (by kernel_rfl) (fun K hK => ?_)
  go_simp; rw [if_pos (arrv_size _ _), run_storeCells_row _ HR1.out]; go_simp
  refine hK.out _ _ (.inl (by kernel_rfl)) (fun _ => ?_)
  clear hK K
  (try simp only [Act.put, nA, nB, nC])
  refine wpAnyM_done (by kernel_rfl) ?_ _
  have R1 := HR1.out
  go_wp2_with fail
  refine bodyPost_ret (results_cell_row Try.results19 _ _ (w.heap.size + 1) 25 (arrv 300 (stepF f oneF (copyF n L))) (0, 0) _ rfl (setRow_heap _ _ _ _ _ _ R1) Try.underlying25 rfl (icov.trans (by rw [arrv_size]))) rfl ⟨rfl, ?_⟩
  exact (((U2.out.then (HB3.out)).trans HU4.out)).then' (below_row (Below.refl _ _) (by omega) _)
end Go.Proofs.Ytcombidoaghlbaa
/- thornton.Step with One, of variances alone: the noises are added, and nothing else. No program. -/
namespace Go.Proofs.Ytcombidoaghlbaa
theorem orB_no {p : Nat → Bool} : ∀ {n : Nat}, (∀ i, i < n → p i = false) → orB p n = false
  | 0, _ => rfl
  | n + 1, h => by simp only [orB]; rw [orB_no fun i hi => h i (by omega), h n (by omega)]; rfl
theorem satV_0 : satV 0 = 0 := by decide
theorem satH_0 : satH 0 = false := by decide
theorem satV_one : satV 1073741824 = 1073741824 := by decide
theorem satH_one : satH 1073741824 = false := by decide
theorem rsh_mul (e : Int) : rsh (1073741824 * e) 30 = e := by
  have h2 : ((2 : Int) ^ 30) = 1073741824 := by decide
  unfold rsh rdiv
  rw [h2]
  have : (1073741824 * e).natAbs = 1073741824 * e.natAbs := by rw [Int.natAbs_mul]; rfl
  rw [this, show (1073741824 : Int).natAbs = 1073741824 from rfl]
  have e1 : (2 * (1073741824 * e.natAbs) + 1073741824) / (2 * 1073741824) = e.natAbs := by omega
  rw [e1]
  by_cases he : 0 ≤ e
  · rw [if_pos (by simp; omega)]; omega
  · rw [if_neg (by simp; omega)]; omega
theorem rsh_0 : rsh 0 30 = 0 := by decide
theorem mulV_one {e : Int} (h1 : -1152921504606846976 ≤ e) (h2 : e ≤ 1152921504606846976) : mulV 1073741824 e 30 = e := by
  unfold mulV
  rw [if_neg (by decide), satV_one, satV_id h1 h2, show (30 : Int).toNat = 30 from rfl, rsh_mul, satV_id h1 h2]
theorem mulH_one {e : Int} (h1 : -1152921504606846976 ≤ e) (h2 : e ≤ 1152921504606846976) : mulH 1073741824 e 30 = false := by
  unfold mulH
  rw [satV_one, satV_id h1 h2, show (30 : Int).toNat = 30 from rfl, rsh_mul, satH_one, satH_no h1 h2]; rfl
theorem mulV_0 (e : Int) : mulV 0 e 30 = 0 := by
  unfold mulV
  rw [if_neg (by decide), satV_0, Int.zero_mul, show (30 : Int).toNat = 30 from rfl, rsh_0, satV_0]
theorem mulH_0 {e : Int} (h1 : -1152921504606846976 ≤ e) (h2 : e ≤ 1152921504606846976) : mulH 0 e 30 = false := by
  unfold mulH
  rw [satV_0, Int.zero_mul, show (30 : Int).toNat = 30 from rfl, rsh_0, satH_no h1 h2]; decide
theorem subV_0 {a : Int} (h1 : -1152921504606846976 ≤ a) (h2 : a ≤ 1152921504606846976) : subV a 0 = a := by
  unfold subV; rw [satV_0, Int.sub_zero, satV_id h1 h2, satV_id h1 h2]
theorem subH_0 {a : Int} (h1 : -1152921504606846976 ≤ a) (h2 : a ≤ 1152921504606846976) : subH a 0 = false := by
  unfold subH; rw [satV_0, Int.sub_zero, satV_id h1 h2, satH_no h1 h2, satH_0]; rfl
theorem rdiv_0 {d : Int} (h : d ≠ 0) : rdiv 0 d = 0 := by
  unfold rdiv
  have : (2 * (0 : Int).natAbs + d.natAbs) / (2 * d.natAbs) = 0 := Nat.div_eq_of_lt (by have := Int.natAbs_pos.2 h; simp; omega)
  rw [this]
  split <;> rfl
/-- A product taken out of a sum of products. -/
theorem dotS_out (A B : Nat → Int) (a : Nat) : ∀ n, a < n → dotS A B n = dotS (upd A a 0) B n + satV (A a) * satV (B a)
  | 0, h => by omega
  | n + 1, h => by
    simp only [dotS]
    by_cases ha : a = n
    · subst ha
      have e : ∀ m, m ≤ a → dotS (upd A a 0) B m = dotS A B m := by
        intro m
        induction m with
        | zero => intro _; rfl
        | succ m ih => intro hm; simp only [dotS]; rw [ih (by omega)]; simp only [upd]; rw [if_neg (by omega)]
      rw [e a (Nat.le_refl _)]
      simp only [upd, if_pos, satV_0, Int.zero_mul]
      omega
    · rw [dotS_out A B a n (by omega)]
      simp only [upd]
      rw [if_neg (by omega : ¬ n = a)]
      omega
theorem dotS_no {A B : Nat → Int} : ∀ {n : Nat}, (∀ i, i < n → A i = 0 ∨ B i = 0) → dotS A B n = 0
  | 0, _ => rfl
  | n + 1, h => by
    simp only [dotS]
    rw [dotS_no fun i hi => h i (by omega)]
    rcases h n (by omega) with e | e <;> rw [e, satV_0] <;> simp
theorem dotB_no {A B : Nat → Int} : ∀ {n : Nat}, (∀ i, i < n → satH (A i) = false ∧ satH (B i) = false) → dotB A B n = false
  | 0, _ => rfl
  | n + 1, h => by
    simp only [dotB]
    rw [dotB_no fun i hi => h i (by omega), (h n (by omega)).1, (h n (by omega)).2]; rfl
/-- Of the products but one at a. -/
theorem dotS_1 {A B : Nat → Int} {n a : Nat} (ha : a < n) (h : ∀ i, i < n → i ≠ a → A i = 0 ∨ B i = 0) : dotS A B n = satV (A a) * satV (B a) := by
  rw [dotS_out A B a n ha, dotS_no, Int.zero_add]
  intro i hi
  by_cases e : i = a
  · left; simp [upd, e]
  · rcases h i hi e with h | h
    · left; simp [upd, e, h]
    · right; exact h
theorem dotS_2 {A B : Nat → Int} {n a b : Nat} (ha : a < n) (hb : b < n) (hab : a ≠ b) (h : ∀ i, i < n → i ≠ a → i ≠ b → A i = 0 ∨ B i = 0) : dotS A B n = satV (A a) * satV (B a) + satV (A b) * satV (B b) := by
  rw [dotS_out A B a n ha, dotS_1 hb, Int.add_comm]
  · congr 2; simp [upd, Ne.symm hab]
  · intro i hi hib
    by_cases e : i = a
    · left; simp [upd, e]
    · rcases h i hi e hib with h | h
      · left; simp [upd, e, h]
      · right; exact h
/-- The rows that are orthogonal from the start. -/
def idW (x : Nat) : Int := if x % 48 = x / 48 ∨ x % 48 = 24 + x / 48 then 1073741824 else 0
theorem idW_bd (x : Nat) : -1152921504606846976 ≤ idW x ∧ idW x ≤ 1152921504606846976 := by unfold idW; split <;> omega
theorem idW_at {i k : Nat} (hk : k < 48) : idW (i * 48 + k) = if k = i ∨ k = 24 + i then 1073741824 else 0 := by
  unfold idW
  rw [show (i * 48 + k) % 48 = k by omega, show (i * 48 + k) / 48 = i by omega]
theorem tri_le {j : Nat} (hj : j < 24) : j * (j - 1) / 2 + j ≤ 276 := by
  have : ∀ j : Fin 24, j.val * (j.val - 1) / 2 + j.val ≤ 276 := by decide
  exact this ⟨j, hj⟩
section
variable {W e : Nat → Int} (hW : ∀ x, x < 1152 → W x = idW x) (he : ∀ k, k < 48 → 0 ≤ e k ∧ e k ≤ 72057594037927936)
include hW he
theorem stY_id {j k : Nat} (hj : j < 24) (hk : k < 48) : stY W e j k = if k = j ∨ k = 24 + j then e k else 0 := by
  unfold stY
  rw [hW _ (by omega), idW_at hk]
  have := he k hk
  split
  · rw [mulV_one (by omega) (by omega)]
  · rw [mulV_0]
theorem dot_id {i j : Nat} (hi : i < 24) (hj : j < 24) : dotS (rowF 48 W i) (stY W e j) 48 = if i = j then 1073741824 * (e j + e (24 + j)) else 0 := by
  by_cases hij : i = j
  · subst hij
    have h1 := he i (by omega)
    have h2 := he (24 + i) (by omega)
    rw [if_pos rfl, dotS_2 (a := i) (b := 24 + i) (by omega) (by omega) (by omega)]
    · rw [stY_id hW he hj (by omega), stY_id hW he hj (by omega), if_pos (.inl rfl), if_pos (.inr rfl)]
      simp only [rowF]
      rw [hW _ (by omega), hW _ (by omega), idW_at (by omega), idW_at (by omega), if_pos (.inl rfl), if_pos (.inr rfl), satV_one, satV_id (by omega) (by omega), satV_id (by omega) (by omega), Int.mul_add]
    · intro k hk h1 h2
      right
      rw [stY_id hW he hj hk, if_neg (by omega)]
  · rw [if_neg hij, dotS_no]
    intro k hk
    by_cases h : k = j ∨ k = 24 + j
    · left
      simp only [rowF]
      rw [hW _ (by omega), idW_at hk, if_neg (by omega)]
    · right
      rw [stY_id hW he hj hk, if_neg h]
theorem dotB_id {i j : Nat} (hi : i < 24) (hj : j < 24) : dotB (rowF 48 W i) (stY W e j) 48 = false := by
  refine dotB_no fun k hk => ⟨?_, ?_⟩
  · simp only [rowF]
    rw [hW _ (by omega)]
    exact satH_no (idW_bd _).1 (idW_bd _).2
  · rw [stY_id hW he hj hk]
    have := he k hk
    split
    · exact satH_no (by omega) (by omega)
    · exact satH_0
variable (hs : ∀ j, j < 24 → 1 ≤ e j + e (24 + j) ∧ e j + e (24 + j) ≤ 72057594037927936)
include hs
theorem stD_id {j : Nat} (hj : j < 24) : stD W e j = e j + e (24 + j) ∧ dB W e j = false := by
  have := hs j hj
  have hd : dotV 30 (rowF 48 W j) (stY W e j) 48 = e j + e (24 + j) := by
    unfold dotV
    rw [if_neg (by decide), dot_id hW he hj hj, if_pos rfl, show (30 : Int).toNat = 30 from rfl, rsh_mul, satV_id (by omega) (by omega)]
  constructor
  · unfold stD
    rw [hd]
    unfold varV clampV
    rw [if_neg (by omega), if_neg (by omega), if_neg (by omega)]
  · unfold dB
    rw [hd]
    unfold dotH
    rw [if_neg (by decide), dotB_id hW he hj hj, dot_id hW he hj hj, if_pos rfl, show (30 : Int).toNat = 30 from rfl, rsh_mul, satH_no (by omega) (by omega)]
    unfold varH clampH
    simp; omega
theorem stU_id {i j : Nat} (hi : i < j) (hj : j < 24) : stU W e j i = 0 ∧ uB W e j i = false := by
  have hd : dotV 30 (rowF 48 W i) (stY W e j) 48 = 0 := by
    unfold dotV
    rw [if_neg (by decide), dot_id hW he (by omega) hj, if_neg (by omega), show (30 : Int).toNat = 30 from rfl, rsh_0, satV_0]
  have hD := (stD_id hW he hs hj).1
  have := hs j hj
  constructor
  · unfold stU divV byV
    rw [hd, hD, if_neg (by decide), satV_0, Int.zero_mul, satV_id (by omega) (by omega), if_neg (by omega)]
    rw [rdiv_0 (by omega), satV_0]
  · unfold uB
    rw [hd, hD]
    unfold dotH divH byH
    rw [if_neg (by decide), dotB_id hW he (by omega) hj, dot_id hW he (by omega) hj, if_neg (by omega), show (30 : Int).toNat = 30 from rfl, rsh_0, satV_0, satH_0, Int.zero_mul, satV_id (by omega) (by omega), satH_no (by omega) (by omega)]
    rw [rdiv_0 (by omega), satH_0]
    simp; omega
theorem stage_id {j : Nat} (hj : j < 24) : (∀ x, x < 1152 → elW W e j j 0 x = idW x) ∧ stageH W e j = false := by
  constructor
  · intro x hx
    unfold elW
    split
    · unfold elV
      rw [(stU_id hW he hs (by omega) hj).1, mulV_0, show x / 48 * 48 + x % 48 = x by omega, hW x hx, subV_0 (idW_bd x).1 (idW_bd x).2]
    · exact hW x hx
  · unfold stageH
    rw [(stD_id hW he hs hj).2, orB_no, orB_no]; rfl
    · intro i hi
      unfold rowB
      rw [(stU_id hW he hs hi hj).2, orB_no]; rfl
      intro k hk
      unfold elB
      rw [(stU_id hW he hs hi hj).1, mulV_0, hW _ (by omega), hW _ (by omega), mulH_0 (idW_bd _).1 (idW_bd _).2, subH_0 (idW_bd _).1 (idW_bd _).2]; rfl
    · intro k hk
      unfold yB
      have := he k hk
      rw [hW _ (by omega), idW_at hk]
      split
      · exact mulH_one (by omega) (by omega)
      · exact mulH_0 (by omega) (by omega)
theorem outI_id (O : Nat → Int) {j : Nat} (hj : j < 24) : ∀ m, m ≤ j → ∀ x, x < 300 → outI O W e j m x = if x = 276 + j then e j + e (24 + j) else if j * (j - 1) / 2 ≤ x ∧ x < j * (j - 1) / 2 + m then 0 else O x
  | 0, _, x, hx => by
    simp only [outI, upd]
    rw [(stD_id hW he hs hj).1]
    split
    · rfl
    · rw [if_neg (by omega)]
  | m + 1, hm, x, hx => by
    have ht := tri_le hj
    have hp : pl m j = j * (j - 1) / 2 + m := rfl
    simp only [outI, upd]
    rw [outI_id O hj m (by omega) x hx, (stU_id hW he hs (by omega) hj).1]
    by_cases h1 : x = pl m j
    · rw [if_pos h1, if_neg (by omega), if_pos (by omega)]
    · rw [if_neg h1]
      split
      · rfl
      · split <;> split <;> first | rfl | omega
end
theorem all_id {W e : Nat → Int} (hW : ∀ x, x < 1152 → W x = idW x) (he : ∀ k, k < 48 → 0 ≤ e k ∧ e k ≤ 72057594037927936)
    (hs : ∀ j, j < 24 → 1 ≤ e j + e (24 + j) ∧ e j + e (24 + j) ≤ 72057594037927936) : ∀ n, n ≤ 24 →
    (∀ x, x < 1152 → WN W e n x = idW x) ∧ HN W e n = false ∧ ∀ x, x < 300 → ON W e n x = if 300 - n ≤ x then e (x - 276) + e (24 + (x - 276)) else 0
  | 0, _ => ⟨hW, rfl, fun x hx => by rw [if_neg (by omega)]; rfl⟩
  | n + 1, hn => by
    obtain ⟨h1, h2, h3⟩ := all_id hW he hs n (by omega)
    have ht := tri_le (j := 23 - n) (by omega)
    have hst := stage_id h1 he hs (j := 23 - n) (by omega)
    refine ⟨hst.1, ?_, fun x hx => ?_⟩
    · simp only [HN]; rw [h2, hst.2]; rfl
    · simp only [ON]
      rw [outI_id h1 he hs _ (by omega) _ (Nat.le_refl _) x hx, h3 x hx]
      by_cases hx1 : x = 276 + (23 - n)
      · rw [if_pos hx1, if_pos (by omega), hx1, show 276 + (23 - n) - 276 = 23 - n by omega]
      · rw [if_neg hx1]
        by_cases hx2 : 300 - n ≤ x
        · rw [if_pos hx2, if_neg (by omega), if_pos (by omega)]
        · have hx3 : ¬ 300 - (n + 1) ≤ x := by omega
          rw [if_neg hx2, if_neg hx3]
          split <;> rfl

/-- A covariance of variances alone. -/
def DiagF (f : Nat → Int) : Prop := (∀ x, x < 276 → f x = 0) ∧ ∀ i, i < 24 → 1 ≤ f (276 + i) ∧ f (276 + i) ≤ 72057594037927936
theorem varV_id {a : Int} (h : 1 ≤ a) (h' : a ≤ 72057594037927936) : varV a = a ∧ varH a = false := by
  constructor
  · unfold varV clampV; rw [if_neg (by omega), if_neg (by omega), if_neg (by omega)]
  · unfold varH clampH; simp; omega
theorem qV_id {a : Int} (h : 0 ≤ a) (h' : a ≤ 72057594037927936) : qV a = a ∧ qH a = false := by
  constructor
  · unfold qV clampV; rw [if_neg (by omega), if_neg (by omega), if_neg (by omega)]
  · unfold qH clampH; simp; omega
theorem cond_diag {f : Nat → Int} (h : DiagF f) : (∀ x, x < 300 → condF f x = f x) ∧ condH f = false := by
  constructor
  · intro x hx
    unfold condF
    split
    · rename_i h1; rw [h.1 x h1, satV_0]
    · have := h.2 (x - 276) (by omega)
      rw [show 276 + (x - 276) = x by omega] at this
      exact (varV_id this.1 this.2).1
  · unfold condH
    rw [orB_no, orB_no]; rfl
    · intro i hi; rw [h.1 i hi, satH_0]
    · intro i hi; exact (varV_id (h.2 i hi).1 (h.2 i hi).2).2
theorem oneF_bd (x : Nat) : satV (oneF x) = oneF x ∧ satH (oneF x) = false := by
  unfold oneF; split
  · exact ⟨satV_one, satH_one⟩
  · exact ⟨satV_0, satH_0⟩
theorem fS_one (x : Nat) : fS oneF 24 0 x = oneF x := by
  unfold fS; split
  · exact (oneF_bd x).1
  · rfl
theorem oneF_at {i m : Nat} (hm : m < 24) : oneF (i * 24 + m) = if i = m then 1073741824 else 0 := by
  unfold oneF
  rw [show (i * 24 + m) / 24 = i by omega, show (i * 24 + m) % 24 = m by omega]
theorem colF_diag {f : Nat → Int} (h : ∀ x, x < 276 → f x = 0) {k m : Nat} (hk : k < 24) : colF f k m = if m = k then 1073741824 else 0 := by
  unfold colF uV
  have ht := tri_le hk
  by_cases e : m = k
  · rw [if_pos (by omega), if_pos e, if_pos e]
  · rw [if_neg e, if_neg e]
    split
    · rw [if_pos (by omega)]
      exact h _ (by unfold pl; omega)
    · rfl
theorem rw_diag {f : Nat → Int} (h : ∀ x, x < 276 → f x = 0) {i k : Nat} (hi : i < 24) (hk : k < 24) :
    rwV f (fS oneF 24 0) i k = (if i = k then 1073741824 else 0) ∧ rwB f (fS oneF 24 0) i k = false := by
  have hd : dotS (rowF 24 (fS oneF 24 0) i) (colF f k) 24 = if i = k then 1073741824 * 1073741824 else 0 := by
    by_cases e : i = k
    · subst e
      rw [if_pos rfl, dotS_1 (a := i) hi]
      · simp only [rowF]
        rw [fS_one, oneF_at hi, if_pos rfl, colF_diag h hi, if_pos rfl, satV_one]
      · intro m hm hmi
        left
        simp only [rowF]
        rw [fS_one, oneF_at hm, if_neg (by omega)]
    · rw [if_neg e, dotS_no]
      intro m hm
      by_cases e2 : i = m
      · right; rw [colF_diag h hk, if_neg (by omega)]
      · left; simp only [rowF]; rw [fS_one, oneF_at hm, if_neg e2]
  have hb : dotB (rowF 24 (fS oneF 24 0) i) (colF f k) 24 = false := by
    refine dotB_no fun m hm => ⟨?_, ?_⟩
    · simp only [rowF]; rw [fS_one]; exact (oneF_bd _).2
    · rw [colF_diag h hk]; split; exact satH_one; exact satH_0
  unfold rwV rwB dotV dotH
  rw [if_neg (by decide : ¬ ((30 : Int) < 0 ∨ (120 : Int) < 30)), if_neg (by decide : ¬ ((30 : Int) < 0 ∨ (120 : Int) < 30)), hb, hd, show (30 : Int).toNat = 30 from rfl]
  by_cases e : i = k
  · rw [if_pos e, if_pos e, rsh_mul]; exact ⟨satV_one, by rw [satH_one]; rfl⟩
  · rw [if_neg e, if_neg e, rsh_0]; exact ⟨satV_0, by rw [satH_0]; rfl⟩
theorem step_diag {f q : Nat → Int} (h : DiagF f) (hq : ∀ i, i < 24 → 0 ≤ q i ∧ f (276 + i) + q i ≤ 72057594037927936) :
    (∀ x, x < 300 → stepF f oneF q x = if x < 276 then 0 else f x + q (x - 276)) ∧ stepH f oneF q = false := by
  have hc := cond_diag h
  have hcu : ∀ x, x < 276 → condF f x = 0 := fun x hx => by rw [hc.1 x (by omega), h.1 x hx]
  have hW : ∀ x, x < 1152 → stepW f oneF x = idW x := by
    intro x hx
    unfold stepW rowsW idW
    split
    · rw [(rw_diag hcu (by omega) (by omega)).1]
      split <;> split <;> first | rfl | omega
    · split <;> split <;> first | rfl | omega
  have hE : ∀ k, k < 48 → stepE f q k = if k < 24 then f (276 + k) else q (k - 24) := by
    intro k hk
    unfold stepE eS
    split
    · rw [hc.1 _ (by omega)]
    · rw [if_pos (by omega)]
      have h1 := hq (k - 24) (by omega)
      have h2 := h.2 (k - 24) (by omega)
      exact (qV_id (by omega) (by omega)).1
  have hA := all_id (W := stepW f oneF) (e := stepE f q) hW (fun k hk => by
    rw [hE k hk]
    split
    · have := h.2 k (by omega); omega
    · have h1 := hq (k - 24) (by omega)
      have h2 := h.2 (k - 24) (by omega)
      omega) (fun j hj => by
    rw [hE j (by omega), hE (24 + j) (by omega), if_pos hj, if_neg (by omega), show 24 + j - 24 = j by omega]
    have h1 := hq j hj
    have h2 := h.2 j hj
    omega) 24 (Nat.le_refl _)
  constructor
  · intro x hx
    unfold stepF
    rw [hA.2.2 x hx]
    by_cases e : x < 276
    · rw [if_neg (by omega), if_pos e]
    · rw [if_pos (by omega), if_neg e, hE _ (by omega), hE _ (by omega), if_pos (by omega), if_neg (by omega), show 276 + (x - 276) = x by omega, show 24 + (x - 276) - 24 = x - 276 by omega]
  · unfold stepH
    rw [hc.2, hA.2.1]
    have h1 : loop1H q oneF 24 = false := by
      unfold loop1H
      refine orB_no fun i hi => ?_
      have h1 := hq i hi
      have h2 := h.2 i hi
      rw [(qV_id (a := q i) (by omega) (by omega)).2]
      unfold row1H
      rw [orB_no]; rfl
      intro k hk; exact (oneF_bd _).2
    have h2 : rowsH (condF f) (fS oneF 24 0) = false := by
      unfold rowsH rwH
      refine orB_no fun k hk => orB_no fun i hi => ?_
      exact (rw_diag hcu hi hk).2
    rw [h1, h2]; rfl
end Go.Proofs.Ytcombidoaghlbaa
/- The equality of two arrays of int64, as numbers. -/
namespace Go.Proofs.Ytcombidoaghlbaa
open Go
set_option maxRecDepth 100000
theorem plain_int {P : Program} {e : TypeId} (h : P.underlying e = some (.int .i64)) : P.plainKey e = true := by simp [Program.plainKey, h]
theorem run_eqItems_int {P : Program} {w : World} (d : Nat) {e : TypeId} (h : P.underlying e = some (.int .i64)) (n : Nat) (f g : Nat → Int) : ∀ (is : List Nat), (∀ i ∈ is, i < n) →
    (Op.eqItems (d + 1) e 1 (arrv n f) (arrv n g) is).run P w = .ok (is.all fun i => f i == g i) w
  | [], _ => by simp [Op.eqItems]
  | i :: is, hi => by
    have hin := hi i (by simp)
    simp only [Op.eqItems, Sem.run_bind, Nat.mul_one, run_part_plain w (plain_int h) (arrv_get (f := f) hin), run_part_plain w (plain_int h) (arrv_get (f := g) hin), Result.andThen_ok, run_equalIn_int w d e .i64 .i64 _ _ h]
    by_cases e1 : f i = g i
    · simp only [e1, beq_self_eq_true, Bool.not_true, Bool.false_eq_true, if_false, List.all_cons, Bool.true_and]
      exact run_eqItems_int d h n f g is fun j hj => hi j (by simp [hj])
    · have : (f i == g i) = false := by simpa using e1
      simp [this]
def eqB (n : Nat) (f g : Nat → Int) : Bool := (List.range n).all fun i => f i == g i
theorem eqB_iff {n : Nat} {f g : Nat → Int} : eqB n f g = true ↔ ∀ i, i < n → f i = g i := by simp [eqB]
theorem run_equalIn_vec {P : Program} {w : World} (d : Nat) {t e : TypeId} {n : Nat} (hu : P.underlying t = some (.array n e)) (h : P.underlying e = some (.int .i64)) (hi : P.cellsOf e = 1) {i : TypeInfo} (hi2 : P.info? e = some i) (f g : Nat → Int) :
    (Op.equalIn (d + 2) t (.agg (arrv n f)) (.agg (arrv n g))).run P w = .ok (eqB n f g) w := by
  rw [show d + 2 = (d + 1) + 1 from rfl, run_equalIn_array w (d + 1) _ _ hu hi2, hi]
  exact run_eqItems_int d h n f g _ fun i hi => by simpa using hi
theorem arrv_extract (n a b : Nat) (f : Nat → Int) (h : a + b ≤ n) : (arrv n f).extract a (a + b) = arrv b fun i => f (a + i) := by
  apply Array.ext_getElem?
  intro i
  by_cases hi : i < b
  · rw [arrv_get hi, Array.getElem?_extract, if_pos (by rw [arrv_size]; omega), arrv_get (by omega)]
  · rw [Array.getElem?_eq_none (xs := arrv b _) (by rw [arrv_size]; omega), Array.getElem?_eq_none (by simp [arrv_size]; omega)]
end Go.Proofs.Ytcombidoaghlbaa
/- The equality of two covariances, as numbers. -/
namespace Go.Proofs.Ytcombidoaghlbaa
open Go
set_option maxRecDepth 100000
def covB (f g : Nat → Int) : Bool := eqB 276 f g && eqB 24 (fun i => f (276 + i)) (fun i => g (276 + i))
theorem covB_iff {f g : Nat → Int} : covB f g = true ↔ ∀ i, i < 300 → f i = g i := by
  unfold covB
  rw [Bool.and_eq_true, eqB_iff, eqB_iff]
  constructor
  · rintro ⟨h1, h2⟩ i hi
    by_cases h : i < 276
    · exact h1 i h
    · have := h2 (i - 276) (by omega); rwa [show 276 + (i - 276) = i by omega] at this
  · intro h
    exact ⟨fun i hi => h i (by omega), fun i hi => h _ (by omega)⟩
theorem run_part_vec {P : Program} {w : World} {t e : TypeId} {n m : Nat} {i : TypeInfo} (hu : P.underlying t = some (.array n e)) (hi : P.info? t = some i) (hn : i.size = n) (a : Nat) (f : Nat → Int) (h : a + n ≤ m) :
    (part t (arrv m f) a).run P w = .ok (.agg (arrv n fun i => f (a + i))) w := by
  have hagg : (isAgg t).run P w = .ok true w := by
    unfold isAgg
    rw [Sem.run_bind, run_underlying hu w]
    rfl
  have hs : P.cellsOf t = n := by simp [Program.cellsOf, hi, hn]
  unfold part
  simp only [Sem.run_bind, hagg, Result.andThen_ok, if_true, run_sizeOf w hi, hs, Sem.run_pure]
  rw [arrv_extract m a n f h]
theorem run_eqFields_cons {P : Program} {w : World} {d : Nat} {xs ys : Array Value} {f : Field} {fs : List Field} {a b : Value} {r r' : Bool} (hn : f.name ≠ "_") (ha : (part f.type xs f.offset).run P w = .ok a w)
    (hb : (part f.type ys f.offset).run P w = .ok b w) (hr : (Op.equalIn d f.type a b).run P w = .ok r w) (h : (Op.eqFields d xs ys fs).run P w = .ok r' w) : (Op.eqFields d xs ys (f :: fs)).run P w = .ok (r && r') w := by
  simp only [Op.eqFields, if_pos hn, Sem.run_bind, ha, hb, hr, Result.andThen_ok]
  cases r
  · simp
  · simp [h]
theorem fieldsOf_of {P : Program} {t : TypeId} {fs : Array Field} (h : P.underlying t = some (.struct fs)) : P.fieldsOf t = fs := by simp [Program.fieldsOf, h]
theorem run_equalIn_cov (d : Nat) (w : World) (f g : Nat → Int) : (Op.equalIn (d + 3) 25 (.agg (arrv 300 f)) (.agg (arrv 300 g))).run Try.prog w = .ok (covB f g) w := by
  have hf := fieldsOf_of Try.underlying25
  rw [show d + 3 = (d + 2) + 1 from rfl, run_equalIn_struct w (d + 2) _ _ _ (by rw [hf]; exact Try.underlying25) (by kernel_rfl), hf]
  have hi22 : ∃ i, Try.prog.info? 22 = some i ∧ i.size = 276 := by
    have h : (Try.prog.info? 22).map (·.size) = some 276 := by kernel_rfl
    cases e : Try.prog.info? 22 with
    | none => rw [e] at h; cases h
    | some i => rw [e] at h; exact ⟨i, rfl, by simpa using h⟩
  have hi23 : ∃ i, Try.prog.info? 23 = some i ∧ i.size = 24 := by
    have h : (Try.prog.info? 23).map (·.size) = some 24 := by kernel_rfl
    cases e : Try.prog.info? 23 with
    | none => rw [e] at h; cases h
    | some i => rw [e] at h; exact ⟨i, rfl, by simpa using h⟩
  have hi2 : ∃ i, Try.prog.info? 2 = some i ∧ i.size = 1 := by
    have h : (Try.prog.info? 2).map (·.size) = some 1 := by kernel_rfl
    cases e : Try.prog.info? 2 with
    | none => rw [e] at h; cases h
    | some i => rw [e] at h; exact ⟨i, rfl, by simpa using h⟩
  obtain ⟨i22, h22, s22⟩ := hi22
  obtain ⟨i23, h23, s23⟩ := hi23
  obtain ⟨i2, h2, s2⟩ := hi2
  have hc : Try.prog.cellsOf 2 = 1 := by simp [Program.cellsOf, h2, s2]
  have p0 := fun f => run_part_vec (w := w) (m := 300) Try.underlying22 h22 s22 0 f (by omega)
  have p1 := fun f => run_part_vec (w := w) (m := 300) Try.underlying23 h23 s23 276 f (by omega)
  have q0 := fun f g => run_equalIn_vec (w := w) d Try.underlying22 Try.underlying2 hc h2 f g
  have q1 := fun f g => run_equalIn_vec (w := w) d Try.underlying23 Try.underlying2 hc h2 f g
  have z : (Op.eqFields (d + 2) (arrv 300 f) (arrv 300 g) []).run Try.prog w = .ok true w := by simp [Op.eqFields]
  have e1 := run_eqFields_cons (f := ⟨"D", 23, 276, false, "", "", 2208⟩) (by decide) (p1 f) (p1 g) (q1 _ _) z
  have e0 := run_eqFields_cons (f := ⟨"U", 22, 0, false, "", "", 0⟩) (by decide) (p0 f) (p0 g) (q0 _ _) e1
  refine Eq.trans e0 ?_
  simp [covB]
theorem run_equal_cov (w : World) (f g : Nat → Int) : (Op.equal 25 (.agg (arrv 300 f)) (.agg (arrv 300 g))).run Try.prog w = .ok (covB f g) w := run_equalIn_cov 9997 w f g
theorem covB_self (f : Nat → Int) : covB f f = true := covB_iff.2 fun _ _ => rfl
open Go in
/-- '==' of two covariances, at the operation. -/
theorem run_op_eqlCov {o : Oper} {ev : Operand → Value} {w : World} (x y : Operand) (ho : o.op = .binOp .eql 25 x y 25) {f g : Nat → Int} (hx : ev x = .agg (arrv 300 f)) (hy : ev y = .agg (arrv 300 g)) {b : Bool} (hb : covB f g = b) :
    (execOp ev o).run Try.prog w = .ok (.value (.bool b)) w := by
  have e := run_equal_cov w f g
  have hG : Try.prog.eqGuardType Try.prog.depth 25 = false := by kernel_rfl
  unfold execOp
  simp only [ho, hx, hy, eqGuard, binOp, Sem.run_bind, Sem.run_pure, Result.andThen_ok]
  simp [hG, e, hb, go_sem]
end Go.Proofs.Ytcombidoaghlbaa
/- What a law's walk carries: its own blocks (numbers, flags), and that all that was there is left. -/
namespace Go.Proofs.Ytcombidoaghlbaa
open Go.RowKit
/-- Block b holds one flag. -/
def Flg (w : World) (b : Nat) (h : Bool) : Prop := w.heap[b]? = some (.cells #[.bool h] 32 (0, 0))
theorem Flg.cell {w : World} {b : Nat} {h : Bool} (f : Flg w b h) : w.cell? ⟨b, 0, none⟩ = some (.bool h) := by
  rw [cell_of_row w b 0 _ _ _ f]; rfl
theorem Flg.free {w : World} {b : Nat} {h : Bool} (f : Flg w b h) : w.frozen? ⟨b, 0, none⟩ = false := frozen_of_row w b 0 _ _ f
theorem Flg.lt {w : World} {b : Nat} {h : Bool} (f : Flg w b h) : b < w.heap.size := by
  rcases Nat.lt_or_ge b w.heap.size with h' | h'
  · exact h'
  · unfold Flg at f; rw [Array.getElem?_eq_none h'] at f; cases f
theorem Flg.below {w w' : World} {b : Nat} {h : Bool} (f : Flg w b h) (hb : Below w.heap.size w w') : Flg w' b h := (hb.block b f.lt).trans f
theorem Flg.alloc {w : World} {b : Nat} {h : Bool} (f : Flg w b h) (o : Obj) : Flg (w.alloc o) b h := f.below ((Below.refl w.heap.size w).alloc (Nat.le_refl _) o)
theorem Flg.other {w : World} {b : Nat} {h : Bool} (f : Flg w b h) {a : Addr} (ha : b ≠ a.block) (v : Value) : Flg (w.setCell a v) b h := (heap_setCell_other w a b v ha).trans f
theorem Flg.new (w : World) (h : Bool) : Flg (w.alloc (.cells #[.bool h] 32)) w.heap.size h := heap_alloc_new w _
theorem Flg.upd {w w' : World} {b : Nat} {h : Bool} (f : Flg w b h) {c : Addr} {v : Bool} (u : Upd c v w w') (hn : b ≠ c.block) : Flg w' b h := (u.block f.lt hn).trans f
/-- Its own flag, raised or not. -/
theorem Flg.hit {w w' : World} {b : Nat} {h h' : Bool} (f : Flg w b h) (u : Upd ⟨b, 0, none⟩ h' w w') : Flg w' b h' := by
  have e : (w.setCell ⟨b, 0, none⟩ (.bool h')).heap[b]? = some (.cells #[.bool h'] 32 (0, 0)) := heap_setCell_same w b 0 _ _ (.bool h') f
  have hl : b < w.heap.size := f.lt
  exact (Below.block u b hl).trans e
theorem Flg.ne {w : World} {b b' : Nat} {h : Bool} {T n : Nat} {f' : Nat → Int} (f : Flg w b h) (k : Blk w b' T n f') : b' ≠ b := k.flag f.cell
/-- Where the flag's cell is new, all that was there is left. -/
theorem own_upd {c : Addr} {h : Bool} {w w1 w2 : World} (b : Below w.heap.size w w1) (hc : w.heap.size ≤ c.block) (u : Upd c h w1 w2) : Below w.heap.size w w2 :=
  b.trans (((Below.refl w.heap.size w1).setCell hc _).trans (Below.mono u b.size))
/-- A block made and filled. -/
theorem Blk.made {w w1 : World} {T n : Nat} {z : Array Value} (hz : z = arrv n (fun _ => 0)) (g : Nat → Int) (e : w1 = (w.alloc (.cells z T)).setRow w.heap.size (arrv n g)) : Blk w1 w.heap.size T n g ∧ Below w.heap.size w w1 := by
  subst e hz
  exact ⟨(Blk.new w T n _).setRow g, below_row ((Below.refl _ _).alloc (Nat.le_refl _) _) (Nat.le_refl _) _⟩
open Go in
/-- An operation of a plain region, by its value. -/
theorem wpList_val {P : Program} {ops : Array Oper} {Q : Exit → Act → World → Prop} {a : Act} {w : World} {rest : List Oper} {o : Oper} {v : Value}
    (hw : Region.wanted o (yielded ops a.tmps) = true) (hy : (execOp a.eval o).run P w = .ok (.value v) w) (h : wpList P ops Q rest (a.put o.dst v) w) : wpList P ops Q (o :: rest) a w :=
  wpList_step fun K hK => by
    rw [if_pos hw]
    unfold Oper.wp
    rw [hy]
    exact hK _ _ h
open Go in
/-- .. that is not wanted. -/
theorem wpList_skip {P : Program} {ops : Array Oper} {Q : Exit → Act → World → Prop} {a : Act} {w : World} {rest : List Oper} {o : Oper}
    (hw : Region.wanted o (yielded ops a.tmps) = false) (h : wpList P ops Q rest (a.put o.dst undef) w) : wpList P ops Q (o :: rest) a w :=
  wpList_step fun K hK => by
    rw [if_neg (by rw [hw]; decide)]
    exact hK _ _ h
open Go in
/-- .. by its value and its world. -/
theorem wpList_act {P : Program} {ops : Array Oper} {Q : Exit → Act → World → Prop} {a : Act} {w w' : World} {rest : List Oper} {o : Oper} {v : Value}
    (hw : Region.wanted o (yielded ops a.tmps) = true) (hy : (execOp a.eval o).run P w = .ok (.value v) w') (h : wpList P ops Q rest (a.put o.dst v) w') : wpList P ops Q (o :: rest) a w :=
  wpList_step fun K hK => by
    rw [if_pos hw]
    unfold Oper.wp
    rw [hy]
    exact hK _ _ h
open Go in
/-- .. by its world. -/
theorem wpList_done {P : Program} {ops : Array Oper} {Q : Exit → Act → World → Prop} {a : Act} {w w' : World} {rest : List Oper} {o : Oper}
    (hw : Region.wanted o (yielded ops a.tmps) = true) (hy : (execOp a.eval o).run P w = .ok .skip w') (h : wpList P ops Q rest (a.put o.dst undef) w') : wpList P ops Q (o :: rest) a w :=
  wpList_step fun K hK => by
    rw [if_pos hw]
    unfold Oper.wp
    rw [hy]
    exact hK _ _ h
open Go in
theorem run_store_row {P : Program} {ev : Operand → Value} {o : Oper} {w : World} (ty : TypeId) (x y : Operand) (ho : o.op = .store ty x y)
    (g : Nat) (hx : ev x = .pointer (some ⟨g, 0, none⟩)) {T n : Nat} {F f : Nat → Int} (hy : ev y = .agg (arrv n F)) (hg : Blk w g T n f) (hi : (P.info? ty).map (·.size) = some n) :
    (execOp ev o).run P w = .ok .skip (w.setRow g (arrv n F)) := by
  unfold execOp
  simp only [ho, hx, hy, Instr.storeAt, Instr.sureAddr, Sem.run_bind, Sem.run_pure, Result.andThen_ok, run_storeVar_row (P := P) w g T ty (arrv n f) (arrv n F) hg (hi.trans (by rw [arrv_size])) (by rw [arrv_size, arrv_size]) (oneCell_arrv n F)]
end Go.Proofs.Ytcombidoaghlbaa
