/- Contract of block.Grow. -/
import Derived.Test.YtglpbcionohipaaBlkW
namespace Go.Proofs.Ytglpbcionohipaa
open Go.RowKit
set_option maxRecDepth 100000
structure GwR (c : Addr) (h : Bool) (bq : Nat) (f Q : Nat → Int) (w wr : World) : Prop where
  upd : Upd c h w wr
  pB : Blk wr w.heap.size 29 300 f
  r0 : Blk wr (w.heap.size + 1) 29 300 (fun _ => 0)
  qB : Blk wr bq 27 24 Q
theorem GwR.below {c : Addr} {h : Bool} {bq : Nat} {f Q : Nat → Int} {w wr w' : World} (s : GwR c h bq f Q w wr) (u : Below wr.heap.size wr w') : GwR c h bq f Q w w' := ⟨s.upd.then u, s.pB.below u, s.r0.below u, s.qB.below u⟩
theorem GwR.drew {c : Addr} {h : Bool} {bq : Nat} {f Q : Nat → Int} {w wr : World} (s : GwR c h bq f Q w wr) : GwR c h bq f Q w wr.drew := ⟨s.upd.drew, s.pB, s.r0, s.qB⟩
theorem GwR.setQ {c : Addr} {h : Bool} {bq : Nat} {f Q : Nat → Int} {w wr : World} (s : GwR c h bq f Q w wr) (h1 : w.heap.size + 1 < bq) (j : Nat) (y : Int) : GwR c h bq f (Go.Proofs.Ytglpbcionohipaa.upd Q j y) w (wr.setCell ⟨bq, j, none⟩ (.int .i64 y)) :=
  ⟨s.upd.setCell (by simp; omega) _, s.pB.other (by simp; omega) _, s.r0.other (by simp; omega) _, s.qB.set _ _⟩
set_option maxHeartbeats 4000000 in
theorem grow_any (c : Addr) (h : Bool) (f : Nat → Int) (fr : Int) (p : Option Addr) (n cp : Nat) (L : Nat → Int) (w : World) (hc : w.cell? c = some (.bool h)) (hf : w.frozen? c = false) (hL : Slc w p n L) (hfr : -1000000 ≤ fr ∧ fr ≤ 1000000) (hn : n ≤ 1000000) :
    Calls Try.prog 15 #[.pointer (some c), .agg (arrv 300 f), .int .i64 fr, .slice p n cp] w fun e w' =>
      e = .returned (.agg (arrv 300 (stepF f oneF (gwQ fr L n)))) ∧ Upd c (h || stepH f oneF (gwQ fr L n)) w w' := by
  have hcb := World.block_lt_of_cell? w c hc
  have HC := Lib.hid hc
  have HF := Lib.hid hf
  have HL := Lib.hid hL
  clear hc hf hL
  go_enter Try.func15, Try.ntmps15
  obtain ⟨W0, hW0⟩ : ∃ x, (w.alloc (.cells (arrv 300 f) 29)).alloc (.cells Try.zeroCells29 29) = x := ⟨_, rfl⟩
  have P0 : Blk W0 w.heap.size 29 300 f := by rw [← hW0]; exact (Blk.new w _ _ _).alloc _
  have Z0 : Blk W0 (w.heap.size + 1) 29 300 (fun _ => 0) := by rw [← hW0, zcov]; exact Blk.new1 w _ _ _ _
  have U0 : Upd c h w W0 := by rw [← hW0]; exact Upd.then (Upd.refl HC.out) (by (repeat (first | with_reducible exact Below.refl _ _ | with_reducible apply Below.drew | (with_reducible refine below_drewN ?_ _) | (with_reducible refine Below.alloc ?_ (by (try simp) <;> omega) _) | (with_reducible refine Below.setCell ?_ (by (try simp) <;> omega) _))))
  obtain ⟨bq, hbq⟩ : ∃ x, W0.heap.size = x := ⟨_, rfl⟩
  have h1 : w.heap.size + 1 < bq := by rw [← hbq]; exact Z0.lt
  have S2 : GwR c h bq f (fun _ => 0) w (W0.alloc (.cells #[.int .i64 0, .int .i64 0, .int .i64 0, .int .i64 0, .int .i64 0, .int .i64 0, .int .i64 0, .int .i64 0, .int .i64 0, .int .i64 0, .int .i64 0, .int .i64 0, .int .i64 0, .int .i64 0, .int .i64 0, .int .i64 0, .int .i64 0, .int .i64 0, .int .i64 0, .int .i64 0, .int .i64 0, .int .i64 0, .int .i64 0, .int .i64 0] 27)) :=
    ⟨U0.alloc _, P0.alloc _, Z0.alloc _, by rw [zcol, ← hbq]; exact Blk.new W0 _ _ _⟩
  have S2 := Lib.hid S2
  go_upto_region 1 with fail
  (try rw [hW0])
  clear P0 Z0 U0 hW0
  go_upto_region 2 with fail
  (try rw [hbq])
  generalize W0.alloc (.cells #[.int .i64 0, .int .i64 0, .int .i64 0, .int .i64 0, .int .i64 0, .int .i64 0, .int .i64 0, .int .i64 0, .int .i64 0, .int .i64 0, .int .i64 0, .int .i64 0, .int .i64 0, .int .i64 0, .int .i64 0, .int .i64 0, .int .i64 0, .int .i64 0, .int .i64 0, .int .i64 0, .int .i64 0, .int .i64 0, .int .i64 0, .int .i64 0] 27) = W3 at *
  clear hbq
  go_wp2_with fail
  go_loopw [15] (fun i wr => ∃ k : Nat, k ≤ n ∧ i = .int .i64 k ∧ Hid (GwR c h bq f (gwQ fr L k) w wr)) (fun i _ => n - (intOf i).toNat)
  case atStart => exact ⟨0, by omega, rfl, S2⟩
  case round =>
    obtain ⟨k, hk, rfl, R⟩ := hrel
    by_cases hkn : k < n
    · have d1 : decide ((k : Int) < (n : Int)) = true := by simp; omega
      obtain ⟨pb, po, rfl, hcell⟩ := HL.out k hkn
      have hne : (⟨pb, po + k, none⟩ : Addr) ≠ c := fun e => by rw [e, HC.out] at hcell; cases hcell
      have hpl := World.block_lt_of_cell? _ _ hcell
      have hcell' : wr.cell? ⟨pb, po + k, none⟩ = some (.int .i64 (L k)) := (R.out.upd.cell hpl (Ne.symm hne)).trans hcell
      have kw : IntKind.i64.wrap (fr + (k : Int)) = fr + (k : Int) := IntWalk.i64_in _ (by omega)
      obtain ⟨x, hx⟩ : ∃ x, fr + (k : Int) = x := ⟨_, rfl⟩
      rw [hx] at kw
      go_upto_region 6 with fail
      (try rw [hx]); (try rw [kw])
      by_cases hin : 0 ≤ x ∧ x < 24
      · obtain ⟨i, rfl⟩ : ∃ i : Nat, x = (i : Int) := ⟨x.toNat, by omega⟩
        have hi : i < 24 := by omega
        have q1 : decide ((0 : Int) ≤ (i : Int) ∧ (i : Int) < 24) = true := by simp; omega
        have qI : rtI fr k = true := by unfold rtI; rw [hx]; exact q1
        have qn : (fr + (k : Int)).toNat = i := by rw [hx]; simp
        have n2 := R.out.qB.cell (i := i) hi
        have n3 := R.out.qB.free i
        have EK := Lib.hid (And.intro qI qn)
        clear hcell hcell' kw hx hpl hne S2 qI qn
        go_wp2_with (go_at_call 31; (refine (is_any (i : Int) _).mono ?_); rintro e w5 ⟨rfl, rfl⟩; (rw [q1]))
        go_roundw
        case rel =>
          obtain ⟨e2, e3⟩ := EK.out
          refine ⟨k + 1, by omega, by go_num, ?_⟩
          rw [show gwQ fr L (k + 1) = Go.Proofs.Ytglpbcionohipaa.upd (gwQ fr L k) i (L k) from by simp only [gwQ]; rw [if_pos e2, e3]]
          exact Lib.hid (R.out.setQ h1 _ _)
        case measure => simp [intOf]; omega
      · have q1 : decide ((0 : Int) ≤ x ∧ x < 24) = false := by simpa using hin
        have qI : rtI fr k = false := by unfold rtI; rw [hx]; exact q1
        have qI' : ¬ rtI fr k = true := by rw [qI]; simp
        have EK := Lib.hid qI'
        go_wp2_with (go_at_call 31; (refine (is_any x _).mono ?_); rintro e w5 ⟨rfl, rfl⟩; (rw [q1]))
        go_roundw
        case rel =>
          refine ⟨k + 1, by omega, by go_num, ?_⟩
          rw [show gwQ fr L (k + 1) = gwQ fr L k from by simp only [gwQ]; rw [if_neg EK.out]]
          exact R
        case measure => simp [intOf]; omega
    · have hkn2 : k = n := by omega
      subst hkn2
      have d1 : decide ((k : Int) < (k : Int)) = false := by simp
      obtain ⟨Q, hQ⟩ : ∃ x, gwQ fr L k = x := ⟨_, rfl⟩
      rw [hQ] at R
      have HQ := Lib.hid hQ
      clear hQ S2
      go_upto_region 9 with fail
      refine wp_region_M (fun w' => Blk w' w.heap.size 29 300 f ∧ Blk w' bq 27 24 Q) 5 (by kernel_rfl) ?_ (fun hHeld => ?_)
      · exact ⟨R.out.pB, R.out.qB⟩
      refine wpAnyM_take 0 (v := ?_) rfl (by kernel_rfl) (fun _ _ _ h => h) (Or.inl ⟨by rfl, ?_⟩) (by assumption) ?_
      rotate_left
      · (intro wx hSw; (try dsimp only at hSw); go_simp; (try with_reducible rfl))
      (try simp only [Act.put, List.setIfInBounds_toArray, List.set_cons_zero, List.set_cons_succ])
      refine wpAnyM_take 1 (v := ?_) rfl (by kernel_rfl) (fun _ _ _ h => h) (Or.inl ⟨by rfl, ?_⟩) (by assumption) ?_
      rotate_left
      · (intro wx hSw; refine Eq.trans (run_load_row 29 (.tmp 5) (by rfl) (w.heap.size) (by rfl) _ _ _ _ (hSw.1) Try.underlying29 rfl (icov.trans (by rw [arrv_size]))) ?_; with_reducible rfl)
      (try simp only [Act.put, List.setIfInBounds_toArray, List.set_cons_zero, List.set_cons_succ])
      refine wpAnyM_take 3 (v := ?_) rfl (by kernel_rfl) (fun _ _ _ h => h) (Or.inl ⟨by rfl, ?_⟩) (by assumption) ?_
      rotate_left
      · (intro wx hSw; refine Eq.trans (run_load_row 27 (.tmp 9) (by rfl) (bq) (by rfl) _ _ _ _ (hSw.2) Try.underlying27 rfl (icol.trans (by rw [arrv_size]))) ?_; with_reducible rfl)
      (try simp only [Act.put, List.setIfInBounds_toArray, List.set_cons_zero, List.set_cons_succ])
      refine wpAnyM_oneS 2 rfl (by kernel_rfl) (fun K hK => ?_)
      go_simp
      (refine (one_any _).mono ?_); rintro e w5 ⟨rfl, hb5⟩; have R5 := Lib.hid (GwR.below (show GwR c h bq f Q w wr.drew from R.out.drew) hb5); clear hb5
      (try dsimp only)
      (try simp only [Act.put, List.setIfInBounds_toArray, List.set_cons_zero, List.set_cons_succ])
      clear hHeld
      refine hK.out _ _ ?_ (fun hHeld => ?_)
      · exact ⟨R5.out.pB, R5.out.qB⟩
      clear hK K
      (try simp only [Act.put, List.setIfInBounds_toArray, List.set_cons_zero, List.set_cons_succ])
      refine wpAnyM_oneS 4 rfl (by kernel_rfl) (fun K hK => ?_)
      go_simp
      (refine (step_any c h f oneF Q w5 (R5.out.upd.cellc HC.out) ((R5.out.upd.frozen hcb).trans HF.out)).mono ?_); rintro e w6 ⟨rfl, hu6⟩; have kp := And.intro (R5.out.pB.upd hu6 (by omega)) (R5.out.qB.upd hu6 (by omega)); have Z6 := R5.out.r0.upd hu6 (by omega); have U6 := Lib.hid (R5.out.upd.trans hu6); clear hu6
      (try dsimp only)
      (try simp only [Act.put, List.setIfInBounds_toArray, List.set_cons_zero, List.set_cons_succ])
      clear hHeld
      refine hK.out _ _ ?_ (fun hHeld => ?_)
      · exact kp
      clear hK K
      (try simp only [Act.put, List.setIfInBounds_toArray, List.set_cons_zero, List.set_cons_succ])
      refine wpAnyM_one 5 rfl (by kernel_rfl) (fun K hK => ?_)
      go_simp; rw [if_pos (arrv_size _ _), run_storeCells_row _ Z6]; go_simp
      refine hK.out _ _ (.inl (by kernel_rfl)) (fun _ => ?_)
      clear hK K
      (try simp only [Act.put, List.setIfInBounds_toArray, List.set_cons_zero, List.set_cons_succ])
      refine wpAnyM_done (by kernel_rfl) ?_ _
      go_wp2_with fail
      refine bodyPost_ret (results_cell_row Try.results15 _ _ (w.heap.size + 1) 29 (arrv 300 (stepF f oneF Q)) (0, 0) _ rfl (setRow_heap _ _ _ _ _ _ Z6) Try.underlying29 rfl (icov.trans (by rw [arrv_size]))) rfl ⟨by rw [HQ.out], ?_⟩
      rw [HQ.out]
      exact U6.out.then' (below_row (Below.refl _ _) (by omega) _)
end Go.Proofs.Ytglpbcionohipaa
