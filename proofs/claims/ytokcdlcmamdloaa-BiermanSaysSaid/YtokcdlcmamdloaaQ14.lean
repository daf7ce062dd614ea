/- Contracts of the program's functions and plain laws, part 14: they hold for all arguments. -/
import Derived.Test.YtokcdlcmamdloaaQ09
import Derived.Test.YtokcdlcmamdloaaQ10
import Derived.Laws.CopyOwn
import Derived.Test.YtokcdlcmamdloaaQ07
import Derived.Laws.AppendOwn
import Derived.Test.YtokcdlcmamdloaaQ01
import Derived.Test.YtokcdlcmamdloaaProg
import Derived.Deep.AppendLies
/- Contract of tri.New: noughts above the diagonal, the variances given, and the least variance where none is given. -/
namespace Go.Proofs.Ytokcdlcmamdloaa
open Go.RowKit
set_option maxRecDepth 100000
def newF (n : Nat) (L : Nat → Int) : Nat → Int := fun i => if i < 276 then 0 else if i - 276 < n then varV (L (i - 276)) else 1
def newB (n : Nat) (L : Nat → Int) (i : Nat) : Bool := if i < n then varH (L i) else false
def newH (n : Nat) (L : Nat → Int) : Bool := orB (newB n L) 24
def newI (n : Nat) (L : Nat → Int) (k : Nat) : Nat → Int := fun i => if i < 276 then 0 else if i < 276 + k then (if i - 276 < n then varV (L (i - 276)) else 1) else 0
theorem new_any (c : Addr) (h : Bool) (p : Option Addr) (n cp : Nat) (L : Nat → Int) (w : World) (hc : w.cell? c = some (.bool h)) (hf : w.frozen? c = false) (hL : Slc w p n L) :
    Calls Try.prog 25 #[.pointer (some c), .slice p n cp] w fun e w' => e = .returned (.agg (arrv 300 (newF n L))) ∧ Upd c (h || newH n L) w w' := by
  have hcb := World.block_lt_of_cell? w c hc
  have HC := Lib.hid hc
  have HF := Lib.hid hf
  have HL := Lib.hid hL
  clear hc hf hL
  go_enter Try.func25, Try.ntmps25
  go_wp2_with fail
  go_loopw [7] (fun i wr => ∃ k : Nat, k ≤ 24 ∧ i = .int .i64 k ∧ Hid (Upd c (h || orB (newB n L) k) w wr ∧ Blk wr w.heap.size 25 300 (fun _ => 0) ∧ Blk wr (w.heap.size + 1) 25 300 (newI n L k))) (fun i _ => 24 - (intOf i).toNat)
  case atStart =>
    refine ⟨0, by omega, rfl, ?_, ?_, ?_⟩
    · rw [show (h || orB (newB n L) 0) = h from by simp [orB]]
      exact Upd.then (Upd.refl HC.out) (by (repeat (first | with_reducible exact Below.refl _ _ | with_reducible apply Below.drew | (with_reducible refine below_drewN ?_ _) | (with_reducible refine Below.alloc ?_ (by (try simp) <;> omega) _) | (with_reducible refine Below.setCell ?_ (by (try simp) <;> omega) _))))
    · rw [zcov]; exact (Blk.new w _ _ _).alloc _
    · rw [zcov]; exact (Blk.new1 w _ _ _ _).congr fun i hi => by simp only [newI]; split <;> first | rfl | (rw [if_neg (by omega)])
  case round =>
    obtain ⟨k, hk, rfl, R⟩ := hrel
    by_cases hlt : k < 24
    · have d1 : decide ((k : Int) < 24) = true := by simp; omega
      have b0 := R.out.2.2.cell (i := 276 + k) (by omega)
      have b1 := R.out.2.2.free (276 + k)
      by_cases hkn : k < n
      · have d2 : decide ((k : Int) < (n : Int)) = true := by simp; omega
        obtain ⟨pb, po, rfl, hcell⟩ := HL.out k hkn
        have hne : (⟨pb, po + k, none⟩ : Addr) ≠ c := fun e => by rw [e, HC.out] at hcell; cases hcell
        have hpl := World.block_lt_of_cell? _ _ hcell
        have U1 : Upd c (h || orB (newB n L) k) w (wr.setCell ⟨w.heap.size + 1, 276 + k, none⟩ (.int .i64 1)) := R.out.1.setCell (by simp) _
        have rc := U1.cellc HC.out
        have rf := (U1.frozen hcb).trans HF.out
        have hcell' : wr.cell? ⟨pb, po + k, none⟩ = some (.int .i64 (L k)) := (R.out.1.cell hpl (Ne.symm hne)).trans hcell
        have hpn : pb ≠ w.heap.size + 1 := by simp at hpl; omega
        have hcell2 : (wr.setCell ⟨w.heap.size + 1, 276 + k, none⟩ (.int .i64 1)).cell? ⟨pb, po + k, none⟩ = some (.int .i64 (L k)) := (World.cell?_setCell_other _ _ _ _ (by intro e; injection e; omega)).trans hcell'
        have CC := Lib.hid (variance_any c _ (L k) _ rc rf)
        have S0 := Lib.hid (R.out.2.2.set (276 + k) 1)
        have T0 := Lib.hid (R.out.2.1.other (a := ⟨w.heap.size + 1, 276 + k, none⟩) (by simp) (.int .i64 1))
        have HU1 := Lib.hid U1
        clear U1 rc rf hcell' R
        go_wp2_with (go_at_call 58; refine CC.out.mono ?_; rintro e w' ⟨rfl, hw'⟩; have U3 := (Upd.set c (h || orB (newB n L) k || varH (L k)) (wr.setCell ⟨w.heap.size + 1, 276 + k, none⟩ (.int .i64 1))).then (by rw [show varH (L k) = clampH (L k) 1 72057594037927936 from rfl, hw']; exact Below.refl _ _); have HU2 := Lib.hid (HU1.out.trans U3); have S2 := S0.out.upd U3 (by have := hcb; omega); have HR2 := Lib.hid (T0.out.upd U3 (by have := hcb; omega)); have c0 := S2.cell (i := 276 + k) (by omega); have c1 := S2.free (276 + k); have HS2 := Lib.hid S2; clear hw' U3 S2)
        go_roundw
        case rel =>
          refine ⟨k + 1, by omega, by go_num, ?_, HR2.out.other (by simp) _, ?_⟩
          · rw [show (h || orB (newB n L) (k + 1)) = (h || orB (newB n L) k || varH (L k)) from by simp [orB, newB, hkn, Bool.or_assoc]]
            exact HU2.out.setCell (by simp) _
          · refine (HS2.out.set _ _).congr fun i hi => ?_
            simp only [Go.Proofs.Ytokcdlcmamdloaa.upd, newI]
            by_cases h1 : i = 276 + k
            · subst h1; rw [if_pos rfl, if_neg (by omega), if_pos (by omega), show 276 + k - 276 = k by omega, if_pos hkn]; rfl
            · rw [if_neg h1, if_neg h1]; split <;> first | rfl | (split <;> split <;> first | rfl | omega)
        case measure => simp [intOf]; omega
      · have d2 : decide ((k : Int) < (n : Int)) = false := by simp; omega
        go_wp2_with fail
        go_roundw
        case rel =>
          refine ⟨k + 1, by omega, by go_num, ?_, R.out.2.1.other (by simp) _, ?_⟩
          · rw [show (h || orB (newB n L) (k + 1)) = (h || orB (newB n L) k) from by simp [orB, newB, hkn]]
            exact R.out.1.setCell (by simp) _
          · refine (R.out.2.2.set _ _).congr fun i hi => ?_
            simp only [Go.Proofs.Ytokcdlcmamdloaa.upd, newI]
            by_cases h1 : i = 276 + k
            · subst h1; rw [if_pos rfl, if_neg (by omega), if_pos (by omega), show 276 + k - 276 = k by omega, if_neg hkn]
            · rw [if_neg h1]; split; rfl; split <;> split <;> first | rfl | omega
        case measure => simp [intOf]; omega
    · have hk24 : k = 24 := by omega
      subst hk24
      have B0 := R.out.2.1
      have B1 := R.out.2.2
      have HB := Lib.hid R.out.1
      clear R hlt hk
      rw [show ((24 : Nat) : Int) = 24 from rfl]
      go_wp2_with (first | (refine wpList_load_row rfl 25 _ rfl (w.heap.size + 1) rfl 25 _ (0, 0) _ B1 Try.underlying25 rfl (icov.trans (by rw [arrv_size])) ?_) | (refine wpList_store_row rfl 25 _ _ rfl w.heap.size _ rfl rfl 25 _ B0 (icov.trans (by rw [arrv_size])) (by rw [arrv_size, arrv_size]) (oneCell_arrv _ _) ?_))
      refine bodyPost_ret (results_cell_row Try.results25 _ _ w.heap.size 25 (arrv 300 (newI n L 24)) (0, 0) _ rfl (setRow_heap _ _ _ _ _ _ B0) Try.underlying25 rfl (icov.trans (by rw [arrv_size]))) rfl ⟨?_, ?_⟩
      · rw [arrv_congr (g := newF n L) fun i hi => by simp only [newI, newF]; split <;> first | rfl | (rw [if_pos (by omega)])]
      · exact HB.out.then' (below_row (Below.refl _ _) (Nat.le_refl _) _)
end Go.Proofs.Ytokcdlcmamdloaa
/- Contract of thornton.With: Step with One and the noises given. -/
namespace Go.Proofs.Ytokcdlcmamdloaa
open Go.RowKit
set_option maxRecDepth 100000
/-- The numbers copied into 24 noughts. -/
def copyF (n : Nat) (L : Nat → Int) : Nat → Int := fun i => if i < n then L i else 0
def copyL (n : Nat) (L : Nat → Int) : List Value := (List.range (min n 24)).map fun i => .int .i64 (L i)
theorem length_copyL (n : Nat) (L : Nat → Int) : (copyL n L).length = min n 24 := by simp [copyL]
theorem copyL_get {n : Nat} {L : Nat → Int} {j : Nat} {v : Value} (h : (copyL n L)[j]? = some v) : j < n ∧ v = .int .i64 (L j) := by
  simp only [copyL, List.getElem?_map, Option.map_eq_some_iff] at h
  obtain ⟨x, hx, rfl⟩ := h
  obtain ⟨h1, h2⟩ := List.getElem?_eq_some_iff.1 hx
  simp at h1 h2
  subst h2
  exact ⟨by omega, rfl⟩
theorem splice_copy (n : Nat) (L : Nat → Int) : (splice (arrv 24 (fun _ => 0)).toList 0 (copyL n L)).toArray = arrv 24 (copyF n L) := by
  apply Array.ext_getElem?
  intro i
  simp only [splice, List.take_zero, List.nil_append, Nat.zero_add, length_copyL, List.getElem?_toArray, List.getElem?_append, List.getElem?_drop, Array.getElem?_toList]
  by_cases hi : i < 24
  · rw [arrv_get (f := copyF n L) hi]
    split
    · rename_i h
      have : i < n := by omega
      simp [copyL, copyF, this, h]
    · rename_i h
      rw [show min n 24 + (i - min n 24) = i by omega, arrv_get hi]
      have : ¬ i < n := by omega
      simp [copyF, this]
  · rw [Array.getElem?_eq_none (xs := arrv 24 (copyF n L)) (by rw [arrv_size]; omega)]
    rw [if_neg (by omega), Array.getElem?_eq_none (by rw [arrv_size]; omega)]
set_option maxHeartbeats 4000000 in
theorem with_any (c : Addr) (h : Bool) (f : Nat → Int) (p : Option Addr) (n cp : Nat) (L : Nat → Int) (w : World) (hc : w.cell? c = some (.bool h)) (hf : w.frozen? c = false) (hL : Slc w p n L) :
    Calls Try.prog 24 #[.pointer (some c), .agg (arrv 300 f), .slice p n cp] w fun e w' =>
      e = .returned (.agg (arrv 300 (stepF f oneF (copyF n L)))) ∧ Upd c (h || stepH f oneF (copyF n L)) w w' := by
  have hcb := World.block_lt_of_cell? w c hc
  have HC := Lib.hid hc
  have HF := Lib.hid hf
  have HL := Lib.hid hL
  clear hc hf hL
  go_enter Try.func24, Try.ntmps24
  go_upto_region 2 with fail
  rw [zcov, zcol]
  have U0 := Lib.hid (Upd.then (Upd.refl HC.out) (show Below w.heap.size w (((w.alloc (.cells (arrv 300 f) 25)).alloc (.cells (arrv 300 (fun _ => 0)) 25)).alloc (.cells (arrv 24 (fun _ => 0)) 23)) by (repeat (first | with_reducible exact Below.refl _ _ | with_reducible apply Below.drew | (with_reducible refine below_drewN ?_ _) | (with_reducible refine Below.alloc ?_ (by (try simp) <;> omega) _) | (with_reducible refine Below.setCell ?_ (by (try simp) <;> omega) _)))))
  have B0 := Lib.hid (show Blk (((w.alloc (.cells (arrv 300 f) 25)).alloc (.cells (arrv 300 (fun _ => 0)) 25)).alloc (.cells (arrv 24 (fun _ => 0)) 23)) w.heap.size 25 300 f from ((Blk.new w _ _ _).alloc _).alloc _)
  have B1 := Lib.hid (show Blk (((w.alloc (.cells (arrv 300 f) 25)).alloc (.cells (arrv 300 (fun _ => 0)) 25)).alloc (.cells (arrv 24 (fun _ => 0)) 23)) (w.heap.size + 1) 25 300 (fun _ => 0) from (Blk.new1 w _ _ _ _).alloc _)
  have B2 := Lib.hid (blk_new2 w (.cells (arrv 300 f) 25) (.cells (arrv 300 (fun _ => 0)) 25) 23 24 (fun _ => 0))
  have hsz : (((w.alloc (.cells (arrv 300 f) 25)).alloc (.cells (arrv 300 (fun _ => 0)) 25)).alloc (.cells (arrv 24 (fun _ => 0)) 23)).heap.size = w.heap.size + 1 + 1 + 1 := by simp
  generalize (((w.alloc (.cells (arrv 300 f) 25)).alloc (.cells (arrv 300 (fun _ => 0)) 25)).alloc (.cells (arrv 24 (fun _ => 0)) 23)) = w1 at *
  have q1 := Lib.hid (show (Try.prog.info? 2).map (·.size) = some 1 by kernel_rfl)
  have q2 := Lib.hid (show w1.heap[w.heap.size + 1 + 1]? = some (.cells (arrv 24 (fun _ => 0)).toList.toArray 23 (0, 0)) by rw [Array.toArray_toList]; exact B2.out)
  have q3 := Lib.hid (length_copyL n L)
  have q4 : Hid (0 < (copyL n L).length → some (⟨w.heap.size + 1 + 1, 0, none⟩ : Addr) = some ⟨w.heap.size + 1 + 1, 0, none⟩ ∧ ∃ ad, p = some ad ∧ ∀ (j : Nat) (v : Value), (copyL n L)[j]? = some v → w1.cell? (ad.add j) = some v) := by
    intro hp
    refine ⟨rfl, ?_⟩
    rw [length_copyL] at hp
    obtain ⟨b, o, rfl, _⟩ := HL.out 0 (by omega)
    refine ⟨_, rfl, fun j v hv => ?_⟩
    obtain ⟨hj, rfl⟩ := copyL_get hv
    obtain ⟨b', o', he, hcell⟩ := HL.out j hj
    injection he with he
    injection he with he1 he2
    subst he1 he2
    have : (⟨b, o, none⟩ : Addr).add j = ⟨b, o + j, none⟩ := by simp [Addr.add]
    rw [this]
    exact (U0.out.cell (World.block_lt_of_cell? _ _ hcell) (fun e => by rw [← e, HC.out] at hcell; cases hcell)).trans hcell
  have q5 := Lib.hid (show 0 + (copyL n L).length ≤ (arrv 24 (fun _ => 0)).toList.length by rw [length_copyL]; simp [arrv_size]; omega)
  have q6 := Lib.hid (show ∀ v ∈ copyL n L, v.oneCell' = true from fun v hv => by simp only [copyL, List.mem_map] at hv; obtain ⟨x, _, rfl⟩ := hv; rfl)
  go_wp2_with (refine wpList_copy_splice (o := ⟨some 10, _, _, _, _, _⟩) rfl (.tmp 8) (.tmp 9) 52 52 rfl 2 rfl q1.out (some ⟨w.heap.size + 1 + 1, 0, none⟩) p 24 24 n cp rfl rfl (w.heap.size + 1 + 1) 0 _ 23 q2.out (copyL n L) q3.out q4.out q5.out q6.out (w.heap.size + 1 + 1) w1 (Below.refl _ _) (Nat.le_refl _) ?_; intro w2 HG2 hB2)
  have U2 := Lib.hid (U0.out.then' (hB2.mono (by omega)))
  have X0 : w2.heap[w.heap.size]? = some (.cells (arrv 300 f) 25 (0, 0)) := (hB2.block _ (by omega)).trans B0.out
  have X1 : Blk w2 (w.heap.size + 1) 25 300 (fun _ => 0) := (hB2.block _ (by omega)).trans B1.out
  have X2 : w2.heap[w.heap.size + 1 + 1]? = some (.cells (arrv 24 (copyF n L)) 23 (0, 0)) := by have := HG2.out; rwa [splice_copy] at this
  have H1 := Lib.hid X1
  have rc := U2.out.cellc HC.out
  have rf := (U2.out.frozen hcb).trans HF.out
  have hsz2 : w2.heap.size ≥ w.heap.size + 1 + 1 + 1 := by have := hB2.size; omega
  clear q1 q2 q3 q4 q5 q6 HG2 U0 B0 B1 B2 hsz X1
  refine wp_region_M (fun w' => w'.heap[w.heap.size]? = some (.cells (arrv 300 f) 25 (0, 0)) ∧ w'.heap[w.heap.size + 1 + 1]? = some (.cells (arrv 24 (copyF n L)) 23 (0, 0))) 5 (by kernel_rfl) ?_ (fun hHeld => ?_)
  · exact ⟨X0, X2⟩
  refine wpAnyM_take 0 (v := ?_) rfl (by kernel_rfl) (fun _ _ _ h => h) (Or.inl ⟨by rfl, ?_⟩) (by assumption) ?_
  rotate_left
  · (intro wx hSw; (try dsimp only at hSw); go_simp; (try with_reducible rfl))
  (try simp only [Act.put, List.setIfInBounds_toArray, List.set_cons_zero, List.set_cons_succ])
  refine wpAnyM_take 1 (v := ?_) rfl (by kernel_rfl) (fun _ _ _ h => h) (Or.inl ⟨by rfl, ?_⟩) (by assumption) ?_
  rotate_left
  · (intro wx hSw; refine Eq.trans (run_load_row 25 (.tmp 4) (by rfl) w.heap.size (by rfl) _ _ _ _ hSw.1 Try.underlying25 rfl (icov.trans (by rw [arrv_size]))) ?_; with_reducible rfl)
  (try simp only [Act.put, List.setIfInBounds_toArray, List.set_cons_zero, List.set_cons_succ])
  refine wpAnyM_take 3 (v := ?_) rfl (by kernel_rfl) (fun _ _ _ h => h) (Or.inl ⟨by rfl, ?_⟩) (by assumption) ?_
  rotate_left
  · (intro wx hSw; refine Eq.trans (run_load_row 23 (.tmp 7) (by rfl) (w.heap.size + 1 + 1) (by rfl) _ _ _ _ hSw.2 Try.underlying23 rfl (icol.trans (by rw [arrv_size]))) ?_; with_reducible rfl)
  (try simp only [Act.put, List.setIfInBounds_toArray, List.set_cons_zero, List.set_cons_succ])
  refine wpAnyM_oneS 2 rfl (by kernel_rfl) (fun K hK => ?_)
  go_simp
  (refine (one_any _).mono ?_); rintro e w3 ⟨rfl, hb3⟩; have hb3' : Below w2.heap.size w2 w3 := Below.after (Below.drew (Below.refl _ _)) hb3; have kp := And.intro ((hb3'.block w.heap.size (by omega)).trans X0) ((hb3'.block (w.heap.size + 1 + 1) (by omega)).trans X2); have kc := (hb3'.cell (World.block_lt_of_cell? _ _ rc)).trans rc; have kf := (hb3'.frozen (World.block_lt_of_cell? _ _ rc)).trans rf; have HB3 := Lib.hid hb3'
  (try dsimp only)
  (try simp only [Act.put, List.setIfInBounds_toArray, List.set_cons_zero, List.set_cons_succ])
  clear hHeld
  refine hK.out _ _ ?_ (fun hHeld => ?_)
  · exact kp
  clear hK K
  (try simp only [Act.put, List.setIfInBounds_toArray, List.set_cons_zero, List.set_cons_succ])
  refine wpAnyM_oneS 4 rfl (by kernel_rfl) (fun K hK => ?_)
  go_simp
  (refine (step_any c h f oneF (copyF n L) _ kc kf).mono ?_); rintro e w4 ⟨rfl, hu4⟩; have hs3 := HB3.out.size; have kp2 := And.intro ((hu4.block (k := w.heap.size) (by omega) (by omega)).trans kp.1) ((hu4.block (k := w.heap.size + 1 + 1) (by omega) (by omega)).trans kp.2); have HR1 := Lib.hid ((H1.out.below HB3.out).upd hu4 (by omega)); have HU4 := Lib.hid hu4
  (try dsimp only)
  (try simp only [Act.put, List.setIfInBounds_toArray, List.set_cons_zero, List.set_cons_succ])
  clear hHeld
  refine hK.out _ _ ?_ (fun hHeld => ?_)
  · exact kp2
  clear hK K
  (try simp only [Act.put, List.setIfInBounds_toArray, List.set_cons_zero, List.set_cons_succ])
  refine wpAnyM_one 5 rfl (by kernel_rfl) (fun K hK => ?_)
  go_simp; rw [if_pos (arrv_size _ _), run_storeCells_row _ HR1.out]; go_simp
  refine hK.out _ _ (.inl (by kernel_rfl)) (fun _ => ?_)
  clear hK K
  (try simp only [Act.put, List.setIfInBounds_toArray, List.set_cons_zero, List.set_cons_succ])
  refine wpAnyM_done (by kernel_rfl) ?_ _
  have R1 := HR1.out
  go_wp2_with fail
  refine bodyPost_ret (results_cell_row Try.results24 _ _ (w.heap.size + 1) 25 (arrv 300 (stepF f oneF (copyF n L))) (0, 0) _ rfl (setRow_heap _ _ _ _ _ _ R1) Try.underlying25 rfl (icov.trans (by rw [arrv_size]))) rfl ⟨rfl, ?_⟩
  exact (((U2.out.then (HB3.out)).trans HU4.out)).then' (below_row (Below.refl _ _) (by omega) _)
end Go.Proofs.Ytokcdlcmamdloaa
/- Contract of fx.Add. -/
namespace Go.Proofs.Ytokcdlcmamdloaa
open Go.RowKit
set_option maxRecDepth 100000
theorem of_any (a : Int) (w : World) (h1 : -9223372036854775808 ≤ a) (h2 : a < 9223372036854775808) :
    Calls Try.prog 69 #[.int .i64 a] w fun e w' => e = .returned (Wv a) ∧ Below w.heap.size w w' := by
  go_enter Try.func69, Try.ntmps69
  go_wp2_with fail
  simp [bodyPost, results, Try.results69, go_sem]
  refine ⟨?_, ?_⟩
  · simp only [Wv, Value.agg.injEq, IntKind.wrap_u64]
    have : a / 9223372036854775808 = hi64 a := by unfold hi64; omega
    rw [this]; rfl
  · (repeat (first | with_reducible exact Below.refl _ _ | with_reducible apply Below.drew | (with_reducible refine below_drewN ?_ _) | (with_reducible refine Below.alloc ?_ (by (try simp) <;> omega) _) | (with_reducible refine Below.setCell ?_ (by (try simp) <;> omega) _)))
/-- wide.Of. -/
theorem wof_any (a : Int) (w : World) (h1 : -9223372036854775808 ≤ a) (h2 : a < 9223372036854775808) :
    Calls Try.prog 69 #[.int .i64 a] w fun e w' => e = .returned (.agg #[.int .i64 (hi64 a), .int .u64 (lo64 a)]) ∧ Below w.heap.size w w' := of_any a w h1 h2
structure AddR (c : Addr) (h : Bool) (A : Nat → Int) (w : World) (k : Nat) (wr : World) : Prop where
  upd : Upd c (h || sumB A k) w wr
  c0 : wr.cell? ⟨w.heap.size, 0, none⟩ = some (.int .i64 (hi64 (sumS A k)))
  c1 : wr.cell? ⟨w.heap.size, 1, none⟩ = some (.int .u64 (lo64 (sumS A k)))
  f0 : wr.frozen? ⟨w.heap.size, 0, none⟩ = false
  f1 : wr.frozen? ⟨w.heap.size, 1, none⟩ = false
  sz : w.heap.size < wr.heap.size
set_option maxHeartbeats 1000000 in
theorem fadd_any (c : Addr) (h : Bool) (A : Nat → Int) (pa oa ca n : Nat) (w : World) (hc : w.cell? c = some (.bool h)) (hf : w.frozen? c = false) (hn : n ≤ 100)
    (hA : ∀ i, i < n → w.cell? ⟨pa, oa + i, none⟩ = some (.int .i64 (A i))) :
    Calls Try.prog 47 #[.pointer (some c), .slice (some ⟨pa, oa, none⟩) n ca] w fun e w' =>
      e = .returned (.int .i64 (satV (sumS A n))) ∧ Upd c (h || sumB A n || satH (sumS A n)) w w' := by
  have hcb := World.block_lt_of_cell? w c hc
  have HA := Lib.hid hA
  have HC := Lib.hid hc
  have HF := Lib.hid hf
  clear hA hc hf
  go_enter Try.func47, Try.ntmps47
  go_wp2_with fail
  go_loopw [12] (fun i wr => ∃ k : Nat, k ≤ n ∧ i = .int .i64 k ∧ Hid (AddR c h A w k wr)) (fun i _ => n - (intOf i).toNat)
  case atStart =>
    refine ⟨0, Nat.zero_le _, rfl, ⟨?_, by simp [sumS, hi64], by simp [sumS, lo64], by simp, by simp, by simp⟩⟩
    rw [show (h || sumB A 0) = h from by simp [sumB]]
    exact Upd.then (Upd.refl HC.out) (by (repeat (first | with_reducible exact Below.refl _ _ | with_reducible apply Below.drew | (with_reducible refine below_drewN ?_ _) | (with_reducible refine Below.alloc ?_ (by (try simp) <;> omega) _) | (with_reducible refine Below.setCell ?_ (by (try simp) <;> omega) _))))
  case round =>
    obtain ⟨k, hk, rfl, R⟩ := hrel
    by_cases hlt : k < n
    · have a0 := HA.out k hlt
      have hsb := sumS_bd A k
      have u := R.out.upd
      have ra : wr.cell? ⟨pa, oa + k, none⟩ = some (.int .i64 (A k)) := (u.cell (World.block_lt_of_cell? w _ a0) (ne_of_cells HC.out a0)).trans a0
      have rc : wr.cell? c = some (.bool (h || sumB A k)) := u.cellc HC.out
      have rf : wr.frozen? c = false := (u.frozen hcb).trans HF.out
      have s0 := R.out.c0
      have s1 := R.out.c1
      have t0 := R.out.f0
      have t1 := R.out.f1
      have n0 := ne_of_cells rc s0
      have sA := satV_bd (A k)
      have RSZ := R.out.sz
      have U2 : Upd c (h || sumB A k || satH (A k)) wr (wr.drew.setCell c (.bool (h || sumB A k || satH (A k)))) := Upd.after (Below.drew (Below.refl _ _)) (Upd.set c _ wr.drew)
      have H2 := Lib.hid U2
      have HU := Lib.hid u
      have HSB := Lib.hid hsb
      have SA := Lib.hid sA
      clear U2 u hsb sA
      have hcS : ∀ o, c ≠ ⟨w.heap.size, o, none⟩ := fun o e => by rw [e] at hcb; simp at hcb
      go_wp2_with fail
      refine wp_region_M (fun w' => w'.cell? ⟨w.heap.size, 0, none⟩ = some (.int .i64 (hi64 (sumS A k))) ∧ w'.cell? ⟨w.heap.size, 1, none⟩ = some (.int .u64 (lo64 (sumS A k)))) 10 (by kernel_rfl) ?_ (fun hHeld => ?_)
      · exact ⟨s0, s1⟩
      refine wpAnyM_take 0 (v := ?_) rfl (by kernel_rfl) (fun _ _ _ h => h) (Or.inl ⟨by rfl, ?_⟩) (by assumption) ?_
      rotate_left
      · (intro wx hSw; (try dsimp only at hSw); go_simp; (try with_reducible rfl))
      (try simp only [Act.put, List.setIfInBounds_toArray, List.set_cons_zero, List.set_cons_succ])
      refine wpAnyM_take 1 (v := ?_) rfl (by kernel_rfl) (fun _ _ _ h => h) (Or.inl ⟨by rfl, ?_⟩) (by assumption) ?_
      rotate_left
      · (intro wx hSw; (try dsimp only at hSw); go_simp; (try with_reducible rfl))
      (try simp only [Act.put, List.setIfInBounds_toArray, List.set_cons_zero, List.set_cons_succ])
      refine wpAnyM_take 2 (v := ?_) rfl (by kernel_rfl) (fun _ _ _ h => h) (Or.inl ⟨by rfl, ?_⟩) (by assumption) ?_
      rotate_left
      · (intro wx hSw; (try dsimp only at hSw); go_simp; (try with_reducible rfl))
      (try simp only [Act.put, List.setIfInBounds_toArray, List.set_cons_zero, List.set_cons_succ])
      refine wpAnyM_oneS 3 rfl (by kernel_rfl) (fun K hK => ?_)
      go_simp
      (refine (sat_any c (h || sumB A k) (A k) wr.drew rc rf).mono ?_); rintro e w' ⟨rfl, rfl⟩
      (try dsimp only)
      (try simp only [Act.put, List.setIfInBounds_toArray, List.set_cons_zero, List.set_cons_succ])
      clear hHeld
      refine hK.out _ _ ?_ (fun hHeld => ?_)
      · simp [go_sem, *]
      clear hK K
      (try simp only [Act.put, List.setIfInBounds_toArray, List.set_cons_zero, List.set_cons_succ])
      refine wpAnyM_oneS 4 rfl (by kernel_rfl) (fun K hK => ?_)
      go_simp
      (refine (wof_any _ _ (by have := SA.out; omega) (by have := SA.out; omega)).mono ?_); rintro e w3 ⟨rfl, hb3⟩; have U3 : Upd c (h || sumB A k || satH (A k)) wr w3 := Upd.then H2.out hb3; have kp := keep2 U3 s0 s1 n0 (hcS 1); have HU3 := Lib.hid U3; clear U3; have hz3 : w.heap.size < w3.heap.size := by have := HU3.out.size; omega
      (try dsimp only)
      (try simp only [Act.put, List.setIfInBounds_toArray, List.set_cons_zero, List.set_cons_succ])
      clear hHeld
      refine hK.out _ _ ?_ (fun hHeld => ?_)
      · exact kp
      clear hK K
      (try simp only [Act.put, List.setIfInBounds_toArray, List.set_cons_zero, List.set_cons_succ])
      refine wpAnyM_oneS 5 rfl (by kernel_rfl) (fun K hK => ?_)
      go_simp
      clear hHeld
      refine hK.out _ _ ?_ (fun hHeld => ?_)
      · obtain ⟨e1, e2⟩ := kp; simp [World.cell?_alloc_some, e1, e2]
      clear hK K
      (try simp only [Act.put, List.setIfInBounds_toArray, List.set_cons_zero, List.set_cons_succ])
      refine wpAnyM_oneS 6 rfl (by kernel_rfl) (fun K hK => ?_)
      go_simp
      (refine (wadd2_any (sumS A k) (satV (A k)) (sumS A (k + 1)) w3.heap.size 2 _ (by have := HSB.out; omega) (by have := HSB.out; omega) (by have := SA.out; omega) (by have := SA.out; omega) rfl (by have := HSB.out; have := SA.out; simp only [sumS]; omega) (by have := HSB.out; have := SA.out; simp only [sumS]; omega) (by simp) (by simp) (by simp) (by simp)).mono ?_); rintro e w4 ⟨rfl, hb4⟩; have U4 : Upd c (h || sumB A k || satH (A k)) wr w4 := Upd.then (Upd.alloc HU3.out _) hb4; have kp2 := keep2 U4 s0 s1 n0 (hcS 1); have fz0 : w4.frozen? ⟨w.heap.size, 0, none⟩ = false := (U4.frozen RSZ).trans t0; have fz1 : w4.frozen? ⟨w.heap.size, 1, none⟩ = false := (U4.frozen RSZ).trans t1; have HU4 := Lib.hid U4; clear U4; obtain ⟨y0, y1⟩ := kp2
      (try dsimp only)
      (try simp only [Act.put, List.setIfInBounds_toArray, List.set_cons_zero, List.set_cons_succ])
      clear hHeld
      refine hK.out _ _ ?_ (fun hHeld => ?_)
      · exact ⟨y0, y1⟩
      clear hK K
      (try simp only [Act.put, List.setIfInBounds_toArray, List.set_cons_zero, List.set_cons_succ])
      refine wpAnyM_take 7 (v := ?_) rfl (by kernel_rfl) (fun _ _ _ h => h) (Or.inl ⟨by rfl, ?_⟩) (by assumption) ?_
      rotate_left
      · (intro wx hSw; (try dsimp only at hSw); go_simp; (try with_reducible rfl))
      (try simp only [Act.put, List.setIfInBounds_toArray, List.set_cons_zero, List.set_cons_succ])
      refine wpAnyM_take 8 (v := ?_) rfl (by kernel_rfl) (fun _ _ _ h => h) (Or.inl ⟨by rfl, ?_⟩) (by assumption) ?_
      rotate_left
      · (intro wx hSw; (try dsimp only at hSw); go_simp; (try with_reducible rfl))
      (try simp only [Act.put, List.setIfInBounds_toArray, List.set_cons_zero, List.set_cons_succ])
      refine wpAnyM_takeW 9 (v := ?_) rfl (by kernel_rfl) (fun _ _ _ h => h) (Or.inl ⟨by rfl, ?_⟩) (.inr (by assumption)) ?_
      rotate_left
      · (intro wx hSw; (try dsimp only at hSw); go_simp; (try with_reducible rfl))
      (try simp only [Act.put, List.setIfInBounds_toArray, List.set_cons_zero, List.set_cons_succ])
      refine wpAnyM_one 10 rfl (by kernel_rfl) (fun K hK => ?_)
      go_simp
      refine hK.out _ _ (.inl (by kernel_rfl)) (fun _ => ?_)
      clear hK K
      (try simp only [Act.put, List.setIfInBounds_toArray, List.set_cons_zero, List.set_cons_succ])
      refine wpAnyM_done (by kernel_rfl) ?_ _
      go_wp2_with fail
      go_roundw
      case rel =>
        refine ⟨k + 1, by omega, by go_num, ?_⟩
        have U := HU.out.trans HU4.out
        have tc := two_cells y0 y1 (.int .i64 (hi64 (sumS A (k + 1)))) (.int .u64 (lo64 (sumS A (k + 1))))
        refine ⟨?_, tc.1, tc.2, by rw [World.frozen?_setCell, World.frozen?_setCell]; exact fz0, by rw [World.frozen?_setCell, World.frozen?_setCell]; exact fz1, ?_⟩
        · rw [show (h || sumB A (k + 1)) = (h || sumB A k || satH (A k)) from by simp [sumB, Bool.or_assoc]]
          exact (U.setCell (Nat.le_refl _) _).setCell (Nat.le_refl _) _
        · have := HU4.out.size; simp [World.setCell]; omega
      case measure => simp [intOf]; omega
    · have hkn : k = n := by omega
      subst hkn
      have u := R.out.upd
      have sb := sumS_bd A k
      have rc : wr.cell? c = some (.bool (h || sumB A k)) := u.cellc HC.out
      have rf : wr.frozen? c = false := (u.frozen hcb).trans HF.out
      have s0 := R.out.c0
      have s1 := R.out.c1
      have RSZ := R.out.sz
      have HS := Lib.hid sb
      have HU := Lib.hid u
      clear u sb
      go_wp2_with fail
      refine (round_any (sumS A k) 0 _ (by decide) (by decide) (by have := HS.out; omega) (by have := HS.out; omega)).mono ?_; rintro e w5 ⟨rfl, hb5⟩
      have rc5 : w5.cell? c = some (.bool (h || sumB A k)) := (hb5.cell (World.block_lt_of_cell? _ _ rc)).trans rc
      have rf5 : w5.frozen? c = false := (hb5.frozen (World.block_lt_of_cell? _ _ rc)).trans rf
      have s5 : w5.cell? ⟨w.heap.size, 0, none⟩ = some (.int .i64 (hi64 (sumS A k))) := (hb5.cell RSZ).trans s0
      have H5 := Lib.hid hb5
      clear hb5 rc rf s0 s1
      go_wp2_with fail
      refine (end_any c _ (rsh (sumS A k) 0) _ _ rc5 rf5 (fun hn => by rw [hi_neg]; exact rsh_neg _ _ hn)).mono ?_; rintro e w6 ⟨rfl, rfl⟩
      go_wp2_with fail
      go_ret
      rw [rsh_zero]
      exact ⟨rfl, HU.out.trans (Upd.after H5.out (Upd.set c _ _))⟩
end Go.Proofs.Ytokcdlcmamdloaa
/- Contract of bierman.Pick. -/
namespace Go.Proofs.Ytokcdlcmamdloaa
open Go.RowKit
set_option maxRecDepth 100000
theorem irow : (Try.prog.info? 40).map (·.size) = some 24 := by kernel_rfl
theorem zrow : (#[.int .i64 0, .int .i64 0, .int .i64 0, .int .i64 0, .int .i64 0, .int .i64 0, .int .i64 0, .int .i64 0, .int .i64 0, .int .i64 0, .int .i64 0, .int .i64 0, .int .i64 0, .int .i64 0, .int .i64 0, .int .i64 0, .int .i64 0, .int .i64 0, .int .i64 0, .int .i64 0, .int .i64 0, .int .i64 0, .int .i64 0, .int .i64 0] : Array Value) = arrv 24 (fun _ => 0) := by kernel_rfl
/-- One at each state that is named. -/
def pkS (L : Nat → Int) : Nat → Nat → Int | 0 => fun _ => 0 | n + 1 => if 0 ≤ L n ∧ L n < 24 then upd (pkS L n) (L n).toNat 1073741824 else pkS L n
theorem pick_any (p : Option Addr) (n cp : Nat) (L : Nat → Int) (w : World) (hL : Slc w p n L) (hn : n ≤ 9223372036854775807) :
    Calls Try.prog 16 #[.slice p n cp] w fun e w' => e = .returned (.agg (arrv 24 (pkS L n))) ∧ Below w.heap.size w w' := by
  have HL := Lib.hid hL
  clear hL
  go_enter Try.func16, Try.ntmps16
  go_wp2_with fail
  go_loopw [8] (fun i wr => ∃ k : Nat, k ≤ n ∧ i = .int .i64 k ∧ Hid (Below w.heap.size w wr ∧ Blk wr w.heap.size 40 24 (fun _ => 0) ∧ Blk wr (w.heap.size + 1) 40 24 (pkS L k))) (fun i _ => n - (intOf i).toNat)
  case atStart =>
    refine ⟨0, by omega, rfl, by (repeat (first | with_reducible exact Below.refl _ _ | with_reducible apply Below.drew | (with_reducible refine below_drewN ?_ _) | (with_reducible refine Below.alloc ?_ (by (try simp) <;> omega) _) | (with_reducible refine Below.setCell ?_ (by (try simp) <;> omega) _))), ?_, ?_⟩
    · rw [zrow]; exact (Blk.new w _ _ _).alloc _
    · rw [zrow]; exact Blk.new1 w _ _ _ _
  case round =>
    obtain ⟨k, hk, rfl, R⟩ := hrel
    by_cases hlt : k < n
    · have d1 : decide ((k : Int) < (n : Int)) = true := by simp; omega
      obtain ⟨pb, po, rfl, hcell⟩ := HL.out k hlt
      have hc1 : wr.cell? ⟨pb, po + k, none⟩ = some (.int .i64 (L k)) := (R.out.1.cell (World.block_lt_of_cell? _ _ hcell)).trans hcell
      by_cases h0 : 0 ≤ L k
      · by_cases h1 : L k < 24
        · have hx : ((L k).toNat : Int) = L k := by omega
          obtain ⟨x, hxk⟩ : ∃ x, (L k).toNat = x := ⟨_, rfl⟩
          have hLx : L k = (x : Int) := by omega
          have hxl : x < 24 := by omega
          rw [hLx] at hc1
          have b0 := R.out.2.2.cell (i := x) hxl
          have b1 := R.out.2.2.free x
          have HX := Lib.hid hLx
          have HR := Lib.hid R.out
          clear hx hxk hLx h0 h1 R hcell
          have hx0 : (0 : Int) ≤ (x : Int) := Int.natCast_nonneg _
          have hx1 : (x : Int) < 24 := by omega
          go_wp2_with fail
          go_roundw
          case rel =>
            refine ⟨k + 1, by omega, by go_num, HR.out.1.setCell (by simp) _, HR.out.2.1.other (by simp) _, ?_⟩
            have := HR.out.2.2.set x 1073741824
            have e : pkS L (k + 1) = upd (pkS L k) x 1073741824 := by
              simp only [pkS]
              rw [if_pos (by rw [HX.out]; omega), HX.out]; rfl
            rw [e]; exact this
          case measure => simp [intOf]; omega
        · have d2 : decide (L k < 24) = false := by simp; omega
          have d3 : decide (0 ≤ L k) = true := by simp; omega
          have HR := Lib.hid R.out
          have e : pkS L (k + 1) = pkS L k := by simp only [pkS]; rw [if_neg (by omega)]
          have HE := Lib.hid e
          clear R hcell e
          go_wp2_with fail
          go_roundw
          case rel =>
            refine ⟨k + 1, by omega, by go_num, HR.out.1, HR.out.2.1, ?_⟩
            rw [HE.out]; exact HR.out.2.2
          case measure => simp [intOf]; omega
      · have d3 : decide (0 ≤ L k) = false := by simp; omega
        have HR := Lib.hid R.out
        have e : pkS L (k + 1) = pkS L k := by simp only [pkS]; rw [if_neg (by omega)]
        have HE := Lib.hid e
        clear R hcell e
        go_wp2_with fail
        go_roundw
        case rel =>
          refine ⟨k + 1, by omega, by go_num, HR.out.1, HR.out.2.1, ?_⟩
          rw [HE.out]; exact HR.out.2.2
        case measure => simp [intOf]; omega
    · obtain rfl : k = n := by omega
      have B0 := R.out.2.1
      have B1 := R.out.2.2
      have HB := Lib.hid R.out.1
      clear R hlt hk
      go_wp2_with (first | (refine wpList_load_row rfl 40 _ rfl (w.heap.size + 1) rfl 40 _ (0, 0) _ B1 Try.underlying40 rfl (irow.trans (by rw [arrv_size])) ?_) | (refine wpList_store_row rfl 40 _ _ rfl w.heap.size _ rfl rfl 40 _ B0 (irow.trans (by rw [arrv_size])) (by rw [arrv_size, arrv_size]) (oneCell_arrv _ _) ?_))
      refine bodyPost_ret (results_cell_row Try.results16 _ _ w.heap.size 40 (arrv 24 (pkS L k)) (0, 0) _ rfl (setRow_heap _ _ _ _ _ _ B0) Try.underlying40 rfl (irow.trans (by rw [arrv_size]))) rfl ⟨rfl, ?_⟩
      exact below_row HB.out (Nat.le_refl _) _
end Go.Proofs.Ytokcdlcmamdloaa
/- Contract of bierman.Gain. -/
namespace Go.Proofs.Ytokcdlcmamdloaa
open Go.RowKit
set_option maxRecDepth 100000
def gnF (K : Nat → Int) (y : Int) (n : Nat) : Nat → Int := fun i => if i < n then mulV (K i) y 30 else K i
def gnB (K : Nat → Int) (y : Int) (i : Nat) : Bool := mulH (K i) y 30
theorem gain_any (c : Addr) (h : Bool) (K : Nat → Int) (y : Int) (w : World) (hc : w.cell? c = some (.bool h)) (hf : w.frozen? c = false) :
    Calls Try.prog 14 #[.pointer (some c), .agg (arrv 24 K), .int .i64 y] w fun e w' => e = .returned (.agg (arrv 24 (gnF K y 24))) ∧ Upd c (h || orB (gnB K y) 24) w w' := by
  have hcb := World.block_lt_of_cell? w c hc
  have HC := Lib.hid hc
  have HF := Lib.hid hf
  clear hc hf
  go_enter Try.func14, Try.ntmps14
  go_wp2_with fail
  go_loopw [8] (fun i wr => ∃ k : Nat, k ≤ 24 ∧ i = .int .i64 k ∧ Hid (Upd c (h || orB (gnB K y) k) w wr ∧ Blk wr w.heap.size 40 24 (gnF K y k) ∧ Blk wr (w.heap.size + 1) 40 24 (fun _ => 0))) (fun i _ => 24 - (intOf i).toNat)
  case atStart =>
    refine ⟨0, by omega, rfl, ?_, ?_, ?_⟩
    · rw [show (h || orB (gnB K y) 0) = h from by simp [orB]]
      exact Upd.then (Upd.refl HC.out) (by (repeat (first | with_reducible exact Below.refl _ _ | with_reducible apply Below.drew | (with_reducible refine below_drewN ?_ _) | (with_reducible refine Below.alloc ?_ (by (try simp) <;> omega) _) | (with_reducible refine Below.setCell ?_ (by (try simp) <;> omega) _))))
    · rw [show gnF K y 0 = K from by funext i; simp [gnF]]; exact (Blk.new w _ _ _).alloc _
    · rw [zrow]; exact Blk.new1 w _ _ _ _
  case round =>
    obtain ⟨k, hk, rfl, R⟩ := hrel
    by_cases hlt : k < 24
    · have d1 : decide ((k : Int) < 24) = true := by simp; omega
      have b0 := R.out.2.1.cell (i := k) (by omega)
      rw [show gnF K y k k = K k from by simp [gnF]] at b0
      have rc := R.out.1.cellc HC.out
      have rf := (R.out.1.frozen hcb).trans HF.out
      have CC := Lib.hid (fmul_any c _ (K k) y 30 _ rc rf)
      clear rc rf
      go_wp2_with (go_at_call 31; refine CC.out.mono ?_; rintro e w' ⟨rfl, u⟩; have HU2 := Lib.hid (R.out.1.trans u); have S2 := R.out.2.1.upd u (by have := hcb; omega); have HR2 := Lib.hid (R.out.2.2.upd u (by have := hcb; omega)); have c0 := S2.cell (i := k) (by omega); have c1 := S2.free k; have HS2 := Lib.hid S2; clear u S2)
      go_roundw
      case rel =>
        refine ⟨k + 1, by omega, by go_num, ?_, ?_, HR2.out.other (by simp) _⟩
        · rw [show (h || orB (gnB K y) (k + 1)) = (h || orB (gnB K y) k || mulH (K k) y 30) from by simp [orB, gnB, Bool.or_assoc]]
          exact HU2.out.setCell (by simp) _
        · refine (HS2.out.set _ _).congr fun i hi => ?_
          simp only [Go.Proofs.Ytokcdlcmamdloaa.upd, gnF]
          by_cases h1 : i = k
          · subst h1; rw [if_pos rfl, if_pos (by omega)]
          · rw [if_neg h1]; split <;> split <;> first | rfl | omega
      case measure => simp [intOf]; omega
    · have hk24 : k = 24 := by omega
      subst hk24
      have B0 := R.out.2.1
      have B1 := R.out.2.2
      have HB := Lib.hid R.out.1
      clear R hlt hk
      go_wp2_with (first | (refine wpList_load_row rfl 40 _ rfl w.heap.size rfl 40 _ (0, 0) _ B0 Try.underlying40 rfl (irow.trans (by rw [arrv_size])) ?_) | (refine wpList_store_row rfl 40 _ _ rfl (w.heap.size + 1) _ rfl rfl 40 _ B1 (irow.trans (by rw [arrv_size])) (by rw [arrv_size, arrv_size]) (oneCell_arrv _ _) ?_))
      refine bodyPost_ret (results_cell_row Try.results14 _ _ (w.heap.size + 1) 40 (arrv 24 (gnF K y 24)) (0, 0) _ rfl (setRow_heap _ _ _ _ _ _ B1) Try.underlying40 rfl (irow.trans (by rw [arrv_size]))) rfl ⟨rfl, ?_⟩
      exact HB.out.then' (below_row (Below.refl _ _) (by first | omega | simp) _)
end Go.Proofs.Ytokcdlcmamdloaa
/- A slice of int64 that a call builds by append: what it owns. -/
namespace Go.Proofs.Ytokcdlcmamdloaa
open Go.RowKit
def ints (n : Nat) (L : Nat → Int) : List Value := (List.range n).map fun i => .int .i64 (L i)
theorem ints_length (n : Nat) (L : Nat → Int) : (ints n L).length = n := by simp [ints]
theorem ints_succ (n : Nat) (L : Nat → Int) : ints (n + 1) L = ints n L ++ [.int .i64 (L n)] := by simp [ints, List.range_succ]
theorem ints_get {n : Nat} {L : Nat → Int} {i : Nat} (h : i < n) : (ints n L)[i]? = some (.int .i64 (L i)) := by simp [ints, h]
theorem ints_congr {n : Nat} {L M : Nat → Int} (h : ∀ i, i < n → L i = M i) : ints n L = ints n M := by
  apply List.ext_getElem?
  intro i
  by_cases hi : i < n
  · rw [ints_get hi, ints_get hi, h i hi]
  · rw [List.getElem?_eq_none (by rw [ints_length]; omega), List.getElem?_eq_none (by rw [ints_length]; omega)]
/-- v is a slice of n numbers L in a block of its own, from block B on. -/
def Own (w : World) (B T : Nat) (v : Value) (n : Nat) (L : Nat → Int) : Prop := w.ownsRow B T 1 v n (ints n L)
theorem Own.nil (w : World) (B T : Nat) (L : Nat → Int) : Own w B T (.slice none 0 0) 0 L := World.ownsRow_nil w B T 1
theorem Own.congr {w : World} {B T : Nat} {v : Value} {n : Nat} {L M : Nat → Int} (h : Own w B T v n L) (e : ∀ i, i < n → L i = M i) : Own w B T v n M := by
  unfold Own at *; rwa [← ints_congr e]
theorem Own.kept {w w' : World} {B T : Nat} {v : Value} {n : Nat} {L : Nat → Int} (h : Own w B T v n L) (hs : ∀ k, B ≤ k → k < w.heap.size → some k = v.ownBlock → w'.heap[k]? = w.heap[k]?) : Own w' B T v n L := by
  refine ⟨h.1, ?_⟩
  rcases h.2 with hn | ⟨g, cap, cur, rfl, hb, hgg, rest⟩
  · exact .inl hn
  · refine .inr ⟨g, cap, cur, rfl, hb, ?_, rest⟩
    rw [hs g hb (Array.getElem?_eq_some_iff.1 hgg).1 rfl]
    exact hgg
theorem Own.below {w w' : World} {B T : Nat} {v : Value} {n : Nat} {L : Nat → Int} (h : Own w B T v n L) (b : Below w.heap.size w w') : Own w' B T v n L := h.kept fun k _ hk _ => b.block k hk
theorem Own.drew {w : World} {B T : Nat} {v : Value} {n : Nat} {L : Nat → Int} (h : Own w B T v n L) : Own w.drew B T v n L := h
theorem Own.alloc {w : World} {B T : Nat} {v : Value} {n : Nat} {L : Nat → Int} (h : Own w B T v n L) (o : Obj) : Own (w.alloc o) B T v n L := h.below ((Below.refl _ _).alloc (Nat.le_refl _) o)
theorem Own.upd {w w' : World} {B T : Nat} {v : Value} {n : Nat} {L : Nat → Int} (h : Own w B T v n L) {c : Addr} {f : Bool} (u : Upd c f w w') (hc : c.block < B) : Own w' B T v n L := h.kept fun k hB hk _ => u.block hk (by omega)
theorem Own.grown {w w' : World} {B T : Nat} {v : Value} {n : Nat} {L : Nat → Int} (h : Own w B T v n L) {r : Option Nat} (g : w.grownBy w' r) (hn : ∀ k, v.ownBlock = some k → r ≠ some k) : Own w' B T v n L :=
  h.kept fun k _ hk e => g.block k hk (fun e2 => hn k e.symm e2.symm)
theorem Own.raise {w : World} {B B' T : Nat} {v : Value} {n : Nat} {L : Nat → Int} (h : Own w B T v n L) (hb : B' ≤ B) : Own w B' T v n L := by
  refine ⟨h.1, ?_⟩
  rcases h.2 with hn | ⟨g, cap, cur, rfl, hb2, hgg, rest⟩
  · exact .inl hn
  · exact .inr ⟨g, cap, cur, rfl, by omega, hgg, rest⟩
theorem Own.other {w : World} {B T : Nat} {v : Value} {n : Nat} {L : Nat → Int} (h : Own w B T v n L) {a : Addr} (ha : v.ownBlock ≠ some a.block) (x : Value) : Own (w.setCell a x) B T v n L :=
  h.kept fun k _ _ e => heap_setCell_other w a k x (fun e2 => ha (by rw [← e, e2]))
/-- As a slice: its numbers. -/
theorem Own.slc {w : World} {B T : Nat} {v : Value} {n : Nat} {L : Nat → Int} (h : Own w B T v n L) (hn : 0 < n) :
    ∃ g cp, v = .slice (some ⟨g, 0, none⟩) n cp ∧ B ≤ g ∧ g < w.heap.size ∧ ∀ i, i < n → w.cell? ⟨g, 0 + i, none⟩ = some (.int .i64 (L i)) := by
  rcases h.2 with ⟨_, h0⟩ | ⟨g, cap, cur, rfl, hb, hgg, h1, h2, h3, h4⟩
  · omega
  · refine ⟨g, cap, rfl, hb, (Array.getElem?_eq_some_iff.1 hgg).1, fun i hi => ?_⟩
    rw [Nat.zero_add, cell_of_row w g i cur T (0, 0) hgg]
    have := ints_get (L := L) hi
    rw [← h4, List.getElem?_take] at this
    split at this
    · simpa using this
    · cases this
/-- Whatever is behind an append: below the first own block nothing has turned. -/
theorem below_grown {B : Nat} {w0 w w' : World} {r : Option Nat} (b : Below B w0 w) (g : w.grownBy w' r) (hr : ∀ k, r = some k → B ≤ k) (hB : B ≤ w.heap.size) : Below B w0 w' :=
  b.trans ⟨g.os, g.tape, g.output, g.size, fun k hk => by
    exact g.block k (by omega) (fun e => by have := hr k e.symm; omega)⟩
end Go.Proofs.Ytokcdlcmamdloaa
/- append of one number of int64 to a slice of the call's own. -/
namespace Go.Proofs.Ytokcdlcmamdloaa
open Go.RowKit
open Go
theorem info_i64 : (Try.prog.info? 2).map (fun i => (i.zero, i.size, i.bytes)) = some (some (.int .i64 0), 1, 8) := by kernel_rfl
theorem info_i64' : ∃ i, Try.prog.info? 2 = some i ∧ i.zero = some (.int .i64 0) ∧ i.size = 1 ∧ i.bytes = 8 := by
  have h := info_i64
  cases e : Try.prog.info? 2 with
  | none => rw [e] at h; cases h
  | some i => rw [e] at h; simp at h; exact ⟨i, rfl, h.1, h.2.1, h.2.2⟩
theorem own_snoc {n : Nat} {L : Nat → Int} {x : Int} : ints n L ++ [.int .i64 x] = ints (n + 1) (upd L n x) := by
  rw [ints_succ]
  congr 1
  · exact ints_congr fun i hi => by simp [upd, show ¬ i = n by omega]
  · simp [upd]
theorem run_app1 {w : World} (B : Nat) {v : Value} {n : Nat} {L : Nat → Int} (hown : Own w B 2 v n L) (nb c : Nat) (x : Int) (hx : w.cell? ⟨nb, 0, none⟩ = some (.int .i64 x)) (hn : n ≤ 1000000) (hB : B ≤ w.heap.size) (ty : TypeId) (H : Nat) (hH : w.heap.size = H) :
    ∃ g cap w', (Builtin.append_ #[52, 52] ty #[v, .slice (some ⟨nb, 0, none⟩) 1 c]).run Try.prog w = .ok (.slice (some ⟨g, 0, none⟩) (n + 1) cap) w' ∧
      Own w' B 2 (.slice (some ⟨g, 0, none⟩) (n + 1) cap) (n + 1) (upd L n x) ∧ w.grownBy w' v.ownBlock ∧ (v.ownBlock = some g ∨ g = H) ∧ g < w'.heap.size := by
  obtain ⟨i, hi, hz, hs, hb⟩ := info_i64'
  obtain ⟨g, cap, w', h1, h2, h3, h4, h5⟩ := run_append_lies (P := Try.prog) w 52 ty B 2 i (.int .i64 0) 1 8 Try.underlying52 hi hz hs hb rfl (by decide) v n (ints n L) hown ⟨nb, 0, none⟩ 1 c [.int .i64 x] rfl
    (fun j u hu => by
      have hj : j = 0 := by
        have := List.getElem?_eq_some_iff.1 hu
        obtain ⟨h, _⟩ := this
        simpa using h
      subst hj
      simp at hu
      subst hu
      simpa [Addr.add] using hx) (fun u hu => by rw [List.mem_singleton] at hu; subst hu; rfl) (by decide) (by unfold maxLen; omega) (by omega) hB H hH
  exact ⟨g, cap, w', h1, by unfold Own; rw [← own_snoc]; exact h2, h3, h4, h5⟩
theorem wp_app1 {w : World} {o : Oper} {a : Act} {K : Act → World → Prop} {Q : Exit → Act → World → Prop} (s x : Operand)
    (ho : o.op = .call { callee := .builtin .append, args := #[s, x], argTypes := #[52, 52] })
    (B : Nat) {v : Value} {n : Nat} {L : Nat → Int} (hs : a.eval s = v) (hown : Own w B 2 v n L) (nb c : Nat) (y : Int) (hx : a.eval x = .slice (some ⟨nb, 0, none⟩) 1 c) (hy : w.cell? ⟨nb, 0, none⟩ = some (.int .i64 y)) (hn : n ≤ 1000000) (hB : B ≤ w.heap.size) (H : Nat) (hH : w.heap.size = H)
    (h : ∀ g cap w', Own w' B 2 (.slice (some ⟨g, 0, none⟩) (n + 1) cap) (n + 1) (upd L n y) → w.grownBy w' v.ownBlock → (v.ownBlock = some g ∨ g = H) → g < w'.heap.size → K (a.put o.dst (.slice (some ⟨g, 0, none⟩) (n + 1) cap)) w') : o.wp Try.prog a w K Q := by
  obtain ⟨g, cap, w', hr, h2, h3, h4, h5⟩ := run_app1 B hown nb c y hy hn hB o.type H hH
  unfold Oper.wp execOp
  simp only [ho, resolve, invoke, builtin, Sem.run_bind, Sem.run_pure, Result.andThen_ok, List.map_toArray, List.map_cons, List.map_nil, hs, hx, hr]
  exact h g cap w' h2 h3 h4 h5
theorem wpList_app1 {w : World} {ops : Array Oper} {rest : List Oper} {o : Oper} {a : Act} {Q : Exit → Act → World → Prop} (hgd : o.guard = none) (s x : Operand)
    (ho : o.op = .call { callee := .builtin .append, args := #[s, x], argTypes := #[52, 52] })
    (B : Nat) {v : Value} {n : Nat} {L : Nat → Int} (hs : a.eval s = v) (hown : Own w B 2 v n L) (nb c : Nat) (y : Int) (hx : a.eval x = .slice (some ⟨nb, 0, none⟩) 1 c) (hy : w.cell? ⟨nb, 0, none⟩ = some (.int .i64 y)) (hn : n ≤ 1000000) (hB : B ≤ w.heap.size) (H : Nat) (hH : w.heap.size = H)
    (h : ∀ g cap w', Own w' B 2 (.slice (some ⟨g, 0, none⟩) (n + 1) cap) (n + 1) (upd L n y) → w.grownBy w' v.ownBlock → (v.ownBlock = some g ∨ g = H) → g < w'.heap.size → wpList Try.prog ops Q rest (a.put o.dst (.slice (some ⟨g, 0, none⟩) (n + 1) cap)) w') : wpList Try.prog ops Q (o :: rest) a w :=
  wpList_plain hgd fun _ hK => wp_app1 s x ho B hs hown nb c y hx hy hn hB H hH fun g cap w' h2 h3 h4 h5 => hK _ _ (h g cap w' h2 h3 h4 h5)
theorem step_app1 {w : World} {ops : Array Oper} {o : Oper} {a : Act} {K : Act → World → Prop} {Q : Exit → Act → World → Prop} {E : Prop} (hgd : o.guard = none) (s x : Operand)
    (ho : o.op = .call { callee := .builtin .append, args := #[s, x], argTypes := #[52, 52] })
    (B : Nat) {v : Value} {n : Nat} {L : Nat → Int} (hs : a.eval s = v) (hown : Own w B 2 v n L) (nb c : Nat) (y : Int) (hx : a.eval x = .slice (some ⟨nb, 0, none⟩) 1 c) (hy : w.cell? ⟨nb, 0, none⟩ = some (.int .i64 y)) (hn : n ≤ 1000000) (hB : B ≤ w.heap.size) (H : Nat) (hH : w.heap.size = H)
    (h : ∀ g cap w', Own w' B 2 (.slice (some ⟨g, 0, none⟩) (n + 1) cap) (n + 1) (upd L n y) → w.grownBy w' v.ownBlock → (v.ownBlock = some g ∨ g = H) → g < w'.heap.size → K (a.put o.dst (.slice (some ⟨g, 0, none⟩) (n + 1) cap)) w') :
    if Region.wanted o (yielded ops a.tmps) = true then Oper.wp Try.prog o a w K Q else E := by
  have hw : Region.wanted o (yielded ops a.tmps) = true := by simp [Region.wanted, hgd]
  rw [if_pos hw]
  exact wp_app1 s x ho B hs hown nb c y hx hy hn hB H hH h
end Go.Proofs.Ytokcdlcmamdloaa
