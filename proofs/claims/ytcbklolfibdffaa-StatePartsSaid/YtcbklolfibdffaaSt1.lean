/- Contracts of package state (1): Att, turned, clamp. -/
import Derived.Test.YtcbklolfibdffaaBnd
import Derived.Test.YtcbklolfibdffaaUnit
namespace Go.Proofs.Ytcbklolfibdffaa
open Go.RowKit
set_option maxRecDepth 100000
theorem ist : (Try.prog.info? 27).map (·.size) = some 24 := by kernel_rfl
theorem att_any (S : Nat → Int) (w : World) : Calls Try.prog 14 #[.agg (arrv 24 S)] w fun e w' => e = .returned (.agg (arrv 4 S)) ∧ Below w.heap.size w w' := by
  have P0 : Blk ((w.alloc (.cells (arrv 24 S) 27)).alloc (.cells #[.int .i64 0, .int .i64 0, .int .i64 0, .int .i64 0] 40)) w.heap.size 27 24 S := (Blk.new w _ 24 _).alloc _
  have R0 : Blk ((w.alloc (.cells (arrv 24 S) 27)).alloc (.cells #[.int .i64 0, .int .i64 0, .int .i64 0, .int .i64 0] 40)) (w.heap.size + 1) 40 4 (fun _ => 0) := by rw [zq4]; exact Blk.new1 w _ _ 4 _
  have B0 : Below w.heap.size w ((w.alloc (.cells (arrv 24 S) 27)).alloc (.cells #[.int .i64 0, .int .i64 0, .int .i64 0, .int .i64 0] 40)) := by (repeat (first | with_reducible exact Below.refl _ _ | with_reducible apply Below.drew | (with_reducible refine below_drewN ?_ _) | (with_reducible refine Below.alloc ?_ (by (try simp) <;> omega) _) | (with_reducible refine Below.setCell ?_ (by (try simp) <;> omega) _)))
  have haa : ∀ (g : Nat) (W : World), (Instr.arrayAt 40 (.slice (some ⟨g, 0, none⟩) 4 24)).run Try.prog W = .ok (.pointer (some ⟨g, 0, none⟩)) W := fun g W => by kernel_rfl
  have B0 := Lib.hid B0
  go_enter Try.func14, Try.ntmps14
  go_upto_region 1 with fail
  generalize (w.alloc (.cells (arrv 24 S) 27)).alloc (.cells #[.int .i64 0, .int .i64 0, .int .i64 0, .int .i64 0] 40) = W0 at *
  go_wp2_with (first | (refine wpList_load_sub rfl 40 _ rfl w.heap.size 0 4 rfl P0 (by decide) _ Try.underlying40 rfl iqt ?_) | (refine wpList_store_row rfl 40 _ _ rfl (w.heap.size + 1) _ rfl rfl 40 _ (R0) (iqt.trans (by rw [arrv_size])) (by rw [arrv_size, arrv_size]) (oneCell_arrv _ _) ?_))
  refine bodyPost_ret (results_cell_row Try.results14 _ _ (w.heap.size + 1) 40 (arrv 4 (fun i => S (0 + i))) (0, 0) _ rfl (setRow_heap _ _ _ _ _ _ R0) Try.underlying40 rfl (iqt.trans (by rw [arrv_size]))) rfl ⟨?_, ?_⟩
  · rw [arrv_congr (g := S) fun i hi => by rw [Nat.zero_add]]
  · exact below_row B0.out (by omega) _
open Go in
/-- copy, as one step of a region that draws its order: the very world behind it. -/
theorem step_copy_row {P : Program} {ops : Array Oper} {o : Oper} {a : Act} {w : World} {K : Act → World → Prop} {Q : Exit → Act → World → Prop} {E : Prop} (hgd : o.guard = none) (d s : Operand) (dT sT : TypeId)
    (ho : o.op = .call { callee := .builtin .copy, args := #[d, s], argTypes := #[dT, sT] }) (elem : TypeId) (hu : P.underlying dT = some (.slice elem)) (hsz : (P.info? elem).map (·.size) = some 1)
    (ad : Addr) (dLen dCap sLen sCap : Nat) (g off : Nat) (hd : a.eval d = .slice (some ⟨g, off, none⟩) dLen dCap) (hs : a.eval s = .slice (some ad) sLen sCap)
    (cur : List Value) (t : TypeId) (hg : w.heap[g]? = some (.cells cur.toArray t (0, 0))) (cs : List Value) (hn : cs.length = Nat.min sLen dLen)
    (hsrc : ∀ j v, cs[j]? = some v → w.cell? (ad.add j) = some v) (hfit : off + cs.length ≤ cur.length) (h1 : ∀ v ∈ cs, v.oneCell' = true)
    (h : K (a.put o.dst (goInt cs.length)) (w.setRow g (splice cur off cs).toArray)) :
    if Region.wanted o (yielded ops a.tmps) = true then Oper.wp P o a w K Q else E := by
  have hw : Region.wanted o (yielded ops a.tmps) = true := by simp [Region.wanted, hgd]
  rw [if_pos hw]
  have hrun := run_copy_row (P := P) w dT sT o.type elem g off dLen dCap ad sLen sCap cur.toArray t cs hu hsz hg hn hsrc (by simpa using hfit) h1
  unfold Oper.wp
  simp [execOp, ho, resolve, invoke, builtin, hd, hs, hrun, Result.andThen]
  have e : (splice cur off cs) = List.take off cur ++ (cs ++ List.drop (off + cs.length) cur) := rfl
  rw [e] at h
  exact h
/-- A state with another quaternion. -/
def turnd (S Q : Nat → Int) : Nat → Int := fun i => if i < 4 then Q i else S i
def quatL (Q : Nat → Int) : List Value := [.int .i64 (Q 0), .int .i64 (Q 1), .int .i64 (Q 2), .int .i64 (Q 3)]
theorem splice_turn (S Q : Nat → Int) : (splice (arrv 24 S).toList 0 (quatL Q)).toArray = arrv 24 (turnd S Q) := by
  apply Array.ext_getElem?
  intro i
  simp only [splice, List.take_zero, List.nil_append, Nat.zero_add, List.getElem?_toArray, List.getElem?_append, List.getElem?_drop, Array.getElem?_toList]
  by_cases h4 : i < 4
  · rw [if_pos (by simpa [quatL] using h4), arrv_get (by omega)]
    simp only [turnd, if_pos h4]
    obtain rfl | rfl | rfl | rfl : i = 0 ∨ i = 1 ∨ i = 2 ∨ i = 3 := by omega
    all_goals rfl
  · rw [if_neg (by simpa [quatL] using h4)]
    have : (quatL Q).length = 4 := rfl
    rw [this, show 4 + (i - 4) = i by omega]
    by_cases hi : i < 24
    · rw [arrv_get hi, arrv_get hi]; simp only [turnd, if_neg h4]
    · rw [Array.getElem?_eq_none (by rw [arrv_size]; omega), Array.getElem?_eq_none (by rw [arrv_size]; omega)]
set_option maxHeartbeats 1000000 in
theorem turned_any (S Q : Nat → Int) (w : World) : Calls Try.prog 17 #[.agg (arrv 24 S), .agg (arrv 4 Q)] w fun e w' => e = .returned (.agg (arrv 24 (turnd S Q))) ∧ Below w.heap.size w w' := by
  have P0 : Blk (((w.alloc (.cells (arrv 24 S) 27)).alloc (.cells (arrv 4 Q) 40)).alloc (.cells #[.int .i64 0, .int .i64 0, .int .i64 0, .int .i64 0, .int .i64 0, .int .i64 0, .int .i64 0, .int .i64 0, .int .i64 0, .int .i64 0, .int .i64 0, .int .i64 0, .int .i64 0, .int .i64 0, .int .i64 0, .int .i64 0, .int .i64 0, .int .i64 0, .int .i64 0, .int .i64 0, .int .i64 0, .int .i64 0, .int .i64 0, .int .i64 0] 27)) w.heap.size 27 24 S := ((Blk.new w _ 24 _).alloc _).alloc _
  have Q0 : Blk (((w.alloc (.cells (arrv 24 S) 27)).alloc (.cells (arrv 4 Q) 40)).alloc (.cells #[.int .i64 0, .int .i64 0, .int .i64 0, .int .i64 0, .int .i64 0, .int .i64 0, .int .i64 0, .int .i64 0, .int .i64 0, .int .i64 0, .int .i64 0, .int .i64 0, .int .i64 0, .int .i64 0, .int .i64 0, .int .i64 0, .int .i64 0, .int .i64 0, .int .i64 0, .int .i64 0, .int .i64 0, .int .i64 0, .int .i64 0, .int .i64 0] 27)) (w.heap.size + 1) 40 4 Q := (Blk.new1 w _ _ 4 _).alloc _
  have R0 : Blk (((w.alloc (.cells (arrv 24 S) 27)).alloc (.cells (arrv 4 Q) 40)).alloc (.cells #[.int .i64 0, .int .i64 0, .int .i64 0, .int .i64 0, .int .i64 0, .int .i64 0, .int .i64 0, .int .i64 0, .int .i64 0, .int .i64 0, .int .i64 0, .int .i64 0, .int .i64 0, .int .i64 0, .int .i64 0, .int .i64 0, .int .i64 0, .int .i64 0, .int .i64 0, .int .i64 0, .int .i64 0, .int .i64 0, .int .i64 0, .int .i64 0] 27)) (w.heap.size + 1 + 1) 27 24 (fun _ => 0) := by rw [zvec24]; exact blk_new2 w _ _ _ 24 _
  have B0 : Below w.heap.size w (((w.alloc (.cells (arrv 24 S) 27)).alloc (.cells (arrv 4 Q) 40)).alloc (.cells #[.int .i64 0, .int .i64 0, .int .i64 0, .int .i64 0, .int .i64 0, .int .i64 0, .int .i64 0, .int .i64 0, .int .i64 0, .int .i64 0, .int .i64 0, .int .i64 0, .int .i64 0, .int .i64 0, .int .i64 0, .int .i64 0, .int .i64 0, .int .i64 0, .int .i64 0, .int .i64 0, .int .i64 0, .int .i64 0, .int .i64 0, .int .i64 0] 27)) := by (repeat (first | with_reducible exact Below.refl _ _ | with_reducible apply Below.drew | (with_reducible refine below_drewN ?_ _) | (with_reducible refine Below.alloc ?_ (by (try simp) <;> omega) _) | (with_reducible refine Below.setCell ?_ (by (try simp) <;> omega) _)))
  have B0 := Lib.hid B0
  have P0 := Lib.hid P0
  have Q0 := Lib.hid Q0
  have R0 := Lib.hid R0
  go_enter Try.func17, Try.ntmps17
  go_upto_region 1 with fail
  generalize ((w.alloc (.cells (arrv 24 S) 27)).alloc (.cells (arrv 4 Q) 40)).alloc (.cells #[.int .i64 0, .int .i64 0, .int .i64 0, .int .i64 0, .int .i64 0, .int .i64 0, .int .i64 0, .int .i64 0, .int .i64 0, .int .i64 0, .int .i64 0, .int .i64 0, .int .i64 0, .int .i64 0, .int .i64 0, .int .i64 0, .int .i64 0, .int .i64 0, .int .i64 0, .int .i64 0, .int .i64 0, .int .i64 0, .int .i64 0, .int .i64 0] 27) = W0 at *
  have q1 := Lib.hid (show (Try.prog.info? 2).map (·.size) = some 1 by kernel_rfl)
  have q2 := Lib.hid (show W0.drew.heap[w.heap.size]? = some (.cells (arrv 24 S).toList.toArray 27 (0, 0)) by rw [Array.toArray_toList]; exact P0.out)
  have q4 : Hid (∀ (j : Nat) (v : Value), (quatL Q)[j]? = some v → W0.drew.cell? ((⟨w.heap.size + 1, 0, none⟩ : Addr).add j) = some v) := by
    refine Lib.hid fun j v hv => ?_
    have hj : j < 4 := (List.getElem?_eq_some_iff.1 hv).1
    have ha : (⟨w.heap.size + 1, 0, none⟩ : Addr).add j = ⟨w.heap.size + 1, j, none⟩ := by unfold Addr.add; split <;> simp_all
    rw [ha, show W0.drew.cell? ⟨w.heap.size + 1, j, none⟩ = W0.cell? ⟨w.heap.size + 1, j, none⟩ from rfl, Q0.out.cell hj]
    have h4 : j = 0 ∨ j = 1 ∨ j = 2 ∨ j = 3 := by omega
    rcases h4 with h | h | h | h <;> (rw [h] at hv ⊢; simp [quatL] at hv; rw [hv])
  have q5 := Lib.hid (show 0 + (quatL Q).length ≤ (arrv 24 S).toList.length by simp [quatL, arrv_size])
  have q6 := Lib.hid (show ∀ v ∈ quatL Q, v.oneCell' = true from fun v hv => by simp [quatL] at hv; rcases hv with rfl | rfl | rfl | rfl <;> rfl)
  refine wp_region_M (fun w' => True) 2 (by kernel_rfl) ?_ (fun hHeld => ?_)
  · trivial
  refine wpAnyM_take 0 (v := ?_) rfl (by kernel_rfl) (fun _ _ _ h => h) (Or.inl ⟨by rfl, ?_⟩) (by assumption) ?_
  rotate_left
  · (intro wx hSw; (try dsimp only at hSw); go_simp; (try with_reducible rfl))
  (try simp only [Act.put, List.setIfInBounds_toArray, List.set_cons_zero, List.set_cons_succ])
  refine wpAnyM_take 1 (v := ?_) rfl (by kernel_rfl) (fun _ _ _ h => h) (Or.inl ⟨by rfl, ?_⟩) (by assumption) ?_
  rotate_left
  · (intro wx hSw; (try dsimp only at hSw); go_simp; (try with_reducible rfl))
  (try simp only [Act.put, List.setIfInBounds_toArray, List.set_cons_zero, List.set_cons_succ])
  refine wpAnyM_one 2 rfl (by kernel_rfl) (fun K hK => ?_)
  refine step_copy_row rfl (.tmp 5) (.tmp 6) 47 47 rfl 2 Try.underlying47 q1.out ⟨w.heap.size + 1, 0, none⟩ 24 24 4 4 w.heap.size 0 rfl rfl _ 27 q2.out (quatL Q) rfl q4.out q5.out q6.out ?_; rw [splice_turn]
  refine hK.out _ _ (.inl (by kernel_rfl)) (fun _ => ?_)
  clear hK K
  (try simp only [Act.put, List.setIfInBounds_toArray, List.set_cons_zero, List.set_cons_succ])
  refine wpAnyM_done (by kernel_rfl) ?_ _
  have X2 : Blk (W0.drew.setRow w.heap.size (arrv 24 (turnd S Q))) w.heap.size 27 24 (turnd S Q) := P0.out.drew.setRow _
  have R2 : Blk (W0.drew.setRow w.heap.size (arrv 24 (turnd S Q))) (w.heap.size + 1 + 1) 27 24 (fun _ => 0) := R0.out.drew.setRow_other _ (by omega)
  have B2 : Below w.heap.size w (W0.drew.setRow w.heap.size (arrv 24 (turnd S Q))) := below_row B0.out.drew (Nat.le_refl _) _
  generalize W0.drew.setRow w.heap.size (arrv 24 (turnd S Q)) = w2 at *
  have B2 := Lib.hid B2
  go_wp2_with (first | (refine wpList_load_row rfl 27 _ rfl (w.heap.size) rfl 27 _ (0, 0) _ (X2) Try.underlying27 rfl (ist.trans (by rw [arrv_size])) ?_) | (refine wpList_store_row rfl 27 _ _ rfl (w.heap.size + 1 + 1) _ rfl rfl 27 _ (R2) (ist.trans (by rw [arrv_size])) (by rw [arrv_size, arrv_size]) (oneCell_arrv _ _) ?_))
  refine bodyPost_ret (results_cell_row Try.results17 _ _ (w.heap.size + 1 + 1) 27 (arrv 24 (turnd S Q)) (0, 0) _ rfl (setRow_heap _ _ _ _ _ _ R2) Try.underlying27 rfl (ist.trans (by rw [arrv_size]))) rfl ⟨rfl, ?_⟩
  exact below_row B2.out (by omega) _
end Go.Proofs.Ytcbklolfibdffaa
